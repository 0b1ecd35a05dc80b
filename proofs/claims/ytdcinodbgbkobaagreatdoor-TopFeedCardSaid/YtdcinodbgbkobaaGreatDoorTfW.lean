/- TopFeed: the walk. -/
import Derived.Test.YtdcinodbgbkobaaGreatDoorTfP
import Derived.Test.YtdcinodbgbkobaaGreatDoorGa
import Derived.BigQuiet
namespace Go.Proofs.YtdcinodbgbkobaaGreatDoor
open Go.Shelf Go.RowKit Go.Maps
set_option linter.unusedVariables false

def KpW (s : Value) (v X : World) : Prop := Kept (fun q => s.ownBlock = some q) v X
theorem KpW.step {s : Value} {v u X : World} (h1 : KpW s v u) (h2 : KpW s u X) : KpW s v X := Kept.trans h1 h2
theorem KpW.self (s : Value) (v : World) : KpW s v v := Kept.refl _ _
theorem KpW.new (s : Value) (v : World) (o : Obj) : KpW s v (v.alloc o) := (Kept.refl _ _).alloc o
set_option maxHeartbeats 8000000 in
set_option maxRecDepth 100000 in
theorem topFeed_walk (A : Option Addr) (n c : Nat) (l : List UInt8) (A2 : Option Addr) (m c2 : Nat) (rs : List UInt8) (w : World) (hn : l.length = n) (hl : BysAt w w.heap.size A l) (hm : rs.length = m) (hr : BysAt w w.heap.size A2 rs) (hg : TlG w) (hgl : GlobAt w) (he : ErrAt w) :
    Calls Tryz.prog 3 #[.slice A n c, .slice A2 m c2] w fun e w' => e = .returned (.bool true) ∧ Below w.heap.size w w' := by
  have HBG := Lib.hid (begun_any A n c l w hn hl hg)
  have HG := Lib.hid hg
  have HGL := Lib.hid hgl
  have HE := Lib.hid he
  have HM := Lib.hid hm
  have HR := Lib.hid hr
  have hgl1 := hgl.1
  have HGS := Lib.hid hgl1
  obtain ⟨iI, ii0, iz0, iz1, iz2⟩ := info_parts it_info
  clear hg hgl he hm hr hn hl hgl1
  go_enter Tryz.func3, Tryz.ntmps3
  go_wp2_with fail
  refine HBG.out.mono ?_
  rintro e w1 ⟨Ae, me, ce, sv, E, ok, rfl, hsv, hone, hok, hb1, htl⟩
  have HB1 := Lib.hid hb1
  have HTL := Lib.hid htl
  clear hb1 HBG htl hok
  go_upto_region 2 with (first
    | (refine wpList_store_blk _ rfl 32 (.tmp 6) (.tmp 30) rfl 0 sv rfl rfl (Blk.new _ _ _) (by rw [hsv]; show 0 + 22 ≤ 22; omega) (by rw [hsv]; exact tsg_info) hone ?_; intro w2 hb2 hk2 hs2)
    | fail)
  (try simp only [Exit.inBlock, Exit.then])
  have HB12 : Hid (Below w1.heap.size w1 w2) := Lib.hid (((Below.refl _ _).alloc (Nat.le_refl _) _).trans (hk2.toBelow (fun i hi => by have e' : i = w1.heap.size := hi; omega) (by simp)))
  have HB2 : Hid (Below w.heap.size w w2) := Lib.hid (HB1.out.trans (HB12.out.mono HB1.out.size))
  clear hb2 hk2 hs2 hsv hone
  have HPA := Lib.hid (parses_any w2 (HG.out.keep HB2.out))
  cases ok with
  | false =>
    go_wp2_with fail
    refine HPA.out.mono ?_
    rintro e w3 ⟨rfl, hb3⟩
    have HB3 : Hid (Below w.heap.size w w3) := Lib.hid (HB2.out.trans (hb3.mono HB2.out.size))
    have HPB := Lib.hid (parses_any w3 (HG.out.keep HB3.out))
    clear hb3 HPA
    go_wp2_with fail
    refine HPB.out.mono ?_
    rintro e w4 ⟨rfl, hb4⟩
    have HB4 : Hid (Below w.heap.size w w4) := Lib.hid (HB3.out.trans (hb4.mono HB3.out.size))
    clear hb4 HPB
    go_wp2_with fail
    go_ret
    exact ⟨rfl, HB4.out⟩
  | true =>
  by_cases h6 : 6 < m
  · have q6 : (6 : Int) < (m : Int) := by omega
    clear h6
    go_wp2_with fail
    refine HPA.out.mono ?_
    rintro e w3 ⟨rfl, hb3⟩
    have HB3 : Hid (Below w.heap.size w w3) := Lib.hid (HB2.out.trans (hb3.mono HB2.out.size))
    have HPB := Lib.hid (parses_any w3 (HG.out.keep HB3.out))
    clear hb3 HPA
    go_wp2_with fail
    refine HPB.out.mono ?_
    rintro e w4 ⟨rfl, hb4⟩
    have HB4 : Hid (Below w.heap.size w w4) := Lib.hid (HB3.out.trans (hb4.mono HB3.out.size))
    clear hb4 HPB
    go_wp2_with fail
    go_ret
    exact ⟨rfl, HB4.out⟩
  have q6 : ¬ (6 : Int) < (m : Int) := by omega
  have hm6 : m ≤ 6 := by omega
  clear h6
  obtain ⟨L, a, b, hti, hL3, hlen, _, hevs, hnil⟩ := HTL.out rfl
  obtain ⟨ts, hts⟩ : ∃ ts, tlTells L = ts := ⟨_, rfl⟩
  rw [hts] at hlen hevs
  have HTE : Hid (∀ e ∈ ts, TEv e ∧ e.tick ≤ E) := Lib.hid (fun e he => by rw [← hts] at he; obtain ⟨h1, h2, _⟩ := hti.ev e he; exact ⟨h1, h2⟩)
  have HEB : Hid (1000 ≤ E ∧ E ≤ 10000) := Lib.hid (by have := hti.pos; omega)
  have hme : me ≤ 300 := by rw [← hlen, ← hts]; exact Nat.le_trans (tells_len L) hL3
  have HLEN := Lib.hid hlen
  have HEV := Lib.hid hevs
  have HNL := Lib.hid hnil
  clear hti hL3 hlen hevs hnil hts HTL
  go_wp2_with fail
  refine HPA.out.mono ?_
  rintro e w3 ⟨rfl, hb3⟩
  have HB13 : Hid (Below w1.heap.size w1 w3) := Lib.hid (HB12.out.trans (hb3.mono HB12.out.size))
  have HB3 : Hid (Below w.heap.size w w3) := Lib.hid (HB2.out.trans (hb3.mono HB2.out.size))
  have HNW := Lib.hid (new_any w3)
  clear hb3 HPA HB12
  go_wp2_with fail
  refine HNW.out.mono ?_
  rintro e w4 ⟨cb, F, rfl, hcat, hF, hb4⟩
  have HB14 : Hid (Below w1.heap.size w1 w4) := Lib.hid (HB13.out.trans (hb4.mono HB13.out.size))
  have HB4 : Hid (Below w.heap.size w w4) := Lib.hid (HB3.out.trans (hb4.mono HB3.out.size))
  have HSO := Lib.hid (evSort_any w4 w1.heap.size Ae ts me ce HLEN.out (HEV.out.below HB14.out) HB14.out.size HNL.out (by omega))
  have HC4 := Lib.hid hcat
  have HF4 : Hid (∀ q, F q → w.heap.size ≤ q) := Lib.hid (fun q hq => Nat.le_trans HB3.out.size (hF q hq))
  clear hcat hF hb4 HNW HB13
  go_wp2_with fail
  refine HSO.out.mono ?_
  rintro e w5 ⟨As, l', rfl, hp, _, hev5, hlo5, _, hb5⟩
  have HB5 : Hid (Below w.heap.size w w5) := Lib.hid (HB4.out.trans (hb5.mono HB4.out.size))
  have HC5 : Hid (CatAt w5 cb F []) := Lib.hid (HC4.out.below hb5)
  have HP := Lib.hid hp
  have hl5 : l'.length = me := by rw [hp.length_eq]; exact HLEN.out
  have HL5 := Lib.hid hl5
  have HEV5 := Lib.hid hev5
  have HF5 : Hid (0 < me → ∀ ad, As = some ad → ¬ F ad.block ∧ ad.block < w5.heap.size) := Lib.hid (fun h0 ad h => by
    obtain ⟨g, o, h1, h2, _⟩ := hev5.at (by omega)
    rw [h] at h1
    cases h1
    refine ⟨fun hq => ?_, h2⟩
    have h3 : g < w4.heap.size := HC4.out.lt g hq
    have h4 : w4.heap.size ≤ g := hlo5 g (by rw [h]; rfl)
    omega)
  clear hp hev5 hlo5 hb5 HSO hl5 HC4
  go_wp2_with fail
  go_loopw [49] (fun i wr => ∃ k : Nat, k ≤ me ∧ i = .int .i64 (k : Nat) ∧ Hid (∃ es F', CatAt wr cb F' es ∧ (∀ q, F' q → w.heap.size ≤ q) ∧ (∀ e ∈ es, e ∈ l') ∧ es.length ≤ k ∧ (0 < me → ∀ ad, As = some ad → ¬ F' ad.block ∧ ad.block < wr.heap.size)) ∧ Hid (EvsAt wr wr.heap.size As l') ∧ Hid (Below w.heap.size w wr)) (fun i _ => me - (intOf i).toNat)
  case atStart => exact ⟨0, Nat.zero_le _, rfl, Lib.hid ⟨[], F, HC5.out, HF4.out, (fun e he => by cases he), Nat.le_refl _, HF5.out⟩, HEV5, HB5⟩
  case round =>
    clear HEV5 HC5 HF5 HB5 HF4
    obtain ⟨k, hk, rfl, hcat, hev, hbw⟩ := hrel
    by_cases hlt : k < me
    · obtain ⟨x, hx⟩ : ∃ x, l'[k]? = some x := ⟨l'[k]'(by rw [HL5.out]; exact hlt), List.getElem?_eq_getElem _⟩
      obtain ⟨g, o, rfl, hgB, hcl⟩ := hev.out.at (by rw [HL5.out]; omega)
      obtain ⟨e0, e1, e2, e3, e4, e5, e6, e7⟩ := hcl k x hx
      obtain ⟨es, F', hc', hF', hsub, hesl, hA'⟩ := hcat.out
      have hxm : x ∈ l' := List.mem_of_getElem? hx
      have hxs : EvSh x := ((HTE.out x (HP.out.mem_iff.1 hxm)).1.few).sh
      obtain ⟨wa, hwa⟩ : ∃ wa, wr.alloc (.cells #[.string x.src, .int .i64 x.num, .int .i64 x.tick, .int .i64 x.kind, .string x.person, .string x.item, .int .i64 x.value, .string x.text] 41) = wa := ⟨_, rfl⟩
      have HBa : Hid (Below wr.heap.size wr wa) := Lib.hid (by rw [← hwa]; exact (Below.refl _ _).alloc (Nat.le_refl _) _)
      have hXa : Blk wa wr.heap.size 41 #[.string x.src, .int .i64 x.num, .int .i64 x.tick, .int .i64 x.kind, .string x.person, .string x.item, .int .i64 x.value, .string x.text] := by rw [← hwa]; exact Blk.new _ _ _
      have HBA : Hid (Below w.heap.size w wa) := Lib.hid (hbw.out.trans (HBa.out.mono hbw.out.size))
      have HA := Lib.hid (apply_any cb F' es x wa (hc'.below HBa.out) hxs (HGL.out.keep HBA.out (Nat.le_refl _)) (by omega) (fun i hi hFi => by have := hF' i hFi; have := HGS.out; omega))
      have HFF := Lib.hid hF'
      have HAA := Lib.hid hA'
      have HLT := Lib.hid hc'.lt
      have HSUB : Hid ((∀ e ∈ aftP es x, e ∈ l') ∧ (aftP es x).length ≤ k + 1) := Lib.hid (by
        unfold aftP
        split
        · refine ⟨fun e he => ?_, by rw [List.length_append]; show _ + 1 ≤ _; omega⟩
          rcases List.mem_append.1 he with h | h
          · exact hsub e h
          · rw [List.mem_singleton] at h; subst h; exact hxm
        · exact ⟨hsub, by omega⟩)
      have hk8 : (k : Int) < (me : Int) := by omega
      have hk9 : (0 : Int) ≤ (k : Int) := by omega
      unfold evA at HA
      have HGF : Hid (¬ F' g) := Lib.hid (hA' (by omega) _ rfl).1
      have HEVK := Lib.hid (hev.out)
      obtain ⟨sb, hsb⟩ : ∃ b, wr.heap.size = b := ⟨_, rfl⟩
      have HSB := Lib.hid hsb
      rw [hsb] at hXa
      have d0 : wa.cell? ⟨sb, 0, none⟩ = some (.string x.src) := hXa.cell 0
      have d1 : wa.cell? ⟨sb, 1, none⟩ = some (.int .i64 x.num) := hXa.cell 1
      have d2 : wa.cell? ⟨sb, 2, none⟩ = some (.int .i64 x.tick) := hXa.cell 2
      have d3 : wa.cell? ⟨sb, 3, none⟩ = some (.int .i64 x.kind) := hXa.cell 3
      have d4 : wa.cell? ⟨sb, 4, none⟩ = some (.string x.person) := hXa.cell 4
      have d5 : wa.cell? ⟨sb, 5, none⟩ = some (.string x.item) := hXa.cell 5
      have d6 : wa.cell? ⟨sb, 6, none⟩ = some (.int .i64 x.value) := hXa.cell 6
      have d7 : wa.cell? ⟨sb, 7, none⟩ = some (.string x.text) := hXa.cell 7
      clear hcl hx hxs hc' hF' hA' hcat hsub hesl hxm hXa hev
      go_upto_region 8 with fail
      (try simp only [Exit.inBlock, Exit.then])
      try rw [hwa]
      try rw [hsb]
      clear hwa hsb e0 e1 e2 e3 e4 e5 e6 e7
      go_wp2_with fail
      refine HA.out.mono ?_
      rintro e w6 ⟨rfl, F2, hc2, hs2, hf2, hk2⟩
      have HB6 : Hid (Below w.heap.size w w6) := Lib.hid (HBA.out.trans (hk2.toBelow HFF.out HBA.out.size))
      have HE6 : Hid (EvsAt w6 w6.heap.size (some ⟨g, o, none⟩) l') := Lib.hid ((evs_off (HEVK.out.below HBa.out) hk2 HBa.out.size (fun h0 ad h => by cases h; exact HGF.out)).more (Nat.le_trans HBa.out.size hk2.size))
      have HCF : Hid (∃ es F', CatAt w6 cb F' es ∧ (∀ q, F' q → w.heap.size ≤ q) ∧ (∀ e ∈ es, e ∈ l') ∧ es.length ≤ k + 1 ∧ (0 < me → ∀ ad, some (⟨g, o, none⟩ : Addr) = some ad → ¬ F' ad.block ∧ ad.block < w6.heap.size)) := Lib.hid ⟨_, F2, hc2, fun q hq => (hf2 q hq).elim (HFF.out q) (fun h => Nat.le_trans HBA.out.size h), HSUB.out.1, HSUB.out.2, fun h0 ad h => by
          cases h
          refine ⟨fun hq => ?_, Nat.lt_of_lt_of_le (Nat.lt_of_lt_of_le hgB HBa.out.size) hk2.size⟩
          rcases hf2 _ hq with h | h
          · exact HGF.out h
          · have h : wa.heap.size ≤ g := h
            have := HBa.out.size
            omega⟩
      clear HA hc2 hs2 hf2 hk2 d0 d1 d2 d3 d4 d5 d6 d7
      go_wp2_with fail
      go_roundw
      case rel => exact ⟨k + 1, by omega, by go_num, HCF, HE6, HB6⟩
      case measure => simp [intOf]; omega
    · obtain rfl : me = k := by omega
      obtain ⟨es, F', hc', hF', hsub, hesl, _⟩ := hcat.out
      have HES : Hid (∀ e ∈ es, EvSh e ∧ e.tick < E + 1) := Lib.hid (fun e he => by
        obtain ⟨h1, h2⟩ := HTE.out e (HP.out.mem_iff.1 (hsub e he))
        exact ⟨h1.few.sh, by omega⟩)
      have HCA : Hid (CatAt wr cb F' es) := Lib.hid hc'
      have HFA := Lib.hid hF'
      have HBW := Lib.hid hbw.out
      have HESL : Hid (es.length ≤ 300) := Lib.hid (by omega)
      clear hcat hev hbw hc' hF' hsub hesl HTE HP
      obtain ⟨wB, hwB⟩ : ∃ q, wr = q := ⟨_, rfl⟩
      rw [hwB] at HCA HBW ⊢
      clear hwB
      obtain ⟨Bz, hBz⟩ : ∃ q, wB.heap.size = q := ⟨_, rfl⟩
      have HBZ := Lib.hid hBz
      clear hBz
      go_wp2_with fail
      go_loopw [59, 12] (fun i v7 wr => ∃ k : Nat, ∃ A7 c7, k ≤ m ∧ i = .int .i64 (k : Nat) ∧ v7 = .slice A7 k c7 ∧ Hid (wr.ownsRow Bz 47 7 (.slice A7 k c7) k ((wI (rs.take k)).flatMap itC)) ∧ Hid (Below wB.heap.size wB wr)) (fun i _ _ => m - (intOf i).toNat)
      case atStart => exact ⟨0, none, 0, Nat.zero_le _, rfl, rfl, Lib.hid (own_nil _ _ _ _), Lib.hid (Below.refl _ _)⟩
      case round =>
        obtain ⟨k, A7, c7, hk, rfl, rfl, ho, hbw⟩ := hrel
        by_cases hlt : k < m
        · obtain ⟨rz, hrz⟩ : ∃ x, rs[k]? = some x := ⟨rs[k]'(by rw [HM.out]; exact hlt), List.getElem?_eq_getElem _⟩
          have hBW : Below w.heap.size w wr := HBW.out.trans (hbw.out.mono HBW.out.size)
          obtain ⟨rg, ro, rfl, hrB, hrc⟩ := BysAt.at (show BysAt wr w.heap.size A2 rs from HR.out.below hBW) hrz
          have HSN : Hid (wI (rs.take (k + 1)) = wI (rs.take k) ++ [wIt k rz.toNat]) := Lib.hid (wI_snoc hrz)
          obtain ⟨r, hr⟩ : ∃ r, rz.toNat = r := ⟨_, rfl⟩
          have hr256 : r < 256 := by rw [← hr]; exact UInt8.toNat_lt _
          rw [hr] at hrc HSN
          have hk8 : (k : Int) < (m : Int) := by omega
          have hk9 : (0 : Int) ≤ (k : Int) := by omega
          have hk6 : (k : Int) < 6 := by omega
          have HBW2 := Lib.hid hBW
          clear hrz hr hBW
          go_upto_block 3 with fail
          go_cut [12] (fun v wx => ∃ A8 c8, v = .slice A8 (k + 1) c8 ∧ Hid (wx.ownsRow Bz 47 7 (.slice A8 (k + 1) c8) (k + 1) ((wI (rs.take (k + 1))).flatMap itC)) ∧ Hid (Below wB.heap.size wB wx))
          case first =>
            go_upto_region 14 with fail
            (try simp only [Exit.inBlock, Exit.then])
            clear hrc
            obtain ⟨nm, hnm⟩ : ∃ q, tlNm 105 k = q := ⟨_, rfl⟩
            obtain ⟨mk, hmk⟩ : ∃ q, mkN r = q := ⟨_, rfl⟩
            obtain ⟨tg, htg⟩ : ∃ q, tgN r = q := ⟨_, rfl⟩
            obtain ⟨a2, ha2⟩ : ∃ q, r % 2 = q := ⟨_, rfl⟩
            obtain ⟨b2, hb2⟩ : ∃ q, r / 2 = q := ⟨_, rfl⟩
            obtain ⟨b3, hb3⟩ : ∃ q, b2 % 3 = q := ⟨_, rfl⟩
            obtain ⟨c6, hc6⟩ : ∃ q, r / 6 = q := ⟨_, rfl⟩
            obtain ⟨c4, hc4⟩ : ∃ q, c6 % 4 = q := ⟨_, rfl⟩
            have f1 : Int.tmod (r : Int) 2 = (a2 : Int) := by rw [← ha2]; exact tmod_nat _ 2
            have f2 : Int.tdiv (r : Int) 2 = (b2 : Int) := by rw [← hb2]; exact tdiv_nat _ 2
            have f3 : Int.tmod (b2 : Int) 3 = (b3 : Int) := by rw [← hb3]; exact tmod_nat _ 3
            have f4 : Int.tdiv (r : Int) 6 = (c6 : Int) := by rw [← hc6]; exact tdiv_nat _ 6
            have f5 : Int.tmod (c6 : Int) 4 = (c4 : Int) := by rw [← hc4]; exact tmod_nat _ 4
            have g2 : IntKind.u8.wrap (b2 : Int) = (b2 : Int) := by rw [IntKind.wrap_u8]; omega
            have g6 : IntKind.u8.wrap (c6 : Int) = (c6 : Int) := by rw [IntKind.wrap_u8]; omega
            have g4 : IntKind.i64.wrap (c4 : Int) = (c4 : Int) := IntWalk.i64_in _ (by omega)
            have g1 : IntKind.i64.wrap (r : Int) = (r : Int) := IntWalk.i64_in _ (by omega)
            have ha8 : (a2 : Int) < 2 := by omega
            have ha9 : (0 : Int) ≤ (a2 : Int) := by omega
            have hb8 : (b3 : Int) < 3 := by omega
            have hb9 : (0 : Int) ≤ (b3 : Int) := by omega
            have HNM : Hid (thA[k]? = some (.string nm)) := Lib.hid (by rw [← hnm]; exact thA_at (by omega))
            have HMK : Hid ((#[.string ⟨#[109, 48]⟩, .string ⟨#[109, 49]⟩] : Array Value)[a2]? = some (.string mk)) := Lib.hid (by
              rw [← hmk]; unfold mkN; rw [ha2]
              have h : a2 = 0 ∨ a2 = 1 := by omega
              rcases h with rfl | rfl <;> rfl)
            have HTG : Hid ((#[.string ⟨#[]⟩, .string ⟨#[116, 48]⟩, .string ⟨#[116, 48, 44, 116, 49]⟩] : Array Value)[b3]? = some (.string tg)) := Lib.hid (by
              rw [← htg]; unfold tgN; rw [hb2, hb3]
              have h : b3 = 0 ∨ b3 = 1 ∨ b3 = 2 := by omega
              rcases h with rfl | rfl | rfl <;> rfl)
            have HWI : Hid (wIt k r = ⟨nm, mk, tg, (c4 : Int), (r : Int), 0, false⟩) := Lib.hid (by unfold wIt; rw [hnm, hmk, htg, hc6, hc4])
            clear hnm hmk htg ha2 hb2 hb3 hc6 hc4
            refine wp_planW (fun _ => True) (.take 0 (.take 2 (.take 6 (.take 7 (.take 11 (.take 12 (.take 13 (.take 16 (.take 17 (.take 18 (.take 19 (.take 20 (.take 21 (.tri 1 (.take 3 (.take 4 (.fork 5 (.take 8 (.take 9 (.turn 10 (.take 14 (.take 15 (.take 22 (.turn 23 (.turn 24 (.take 25 .done))))))))) 10 (.take 14 (.take 15 (.turn 5 (.take 8 (.take 9 (.take 22 (.turn 23 (.turn 24 (.take 25 .done)))))))))))) 5 (.take 8 (.take 9 (.fork 1 (.take 3 (.take 4 (.turn 10 (.take 14 (.take 15 (.take 22 (.turn 23 (.turn 24 (.take 25 .done))))))))) 10 (.take 14 (.take 15 (.turn 1 (.take 3 (.take 4 (.take 22 (.turn 23 (.turn 24 (.take 25 .done)))))))))))) 10 (.take 14 (.take 15 (.fork 1 (.take 3 (.take 4 (.turn 5 (.take 8 (.take 9 (.take 22 (.turn 23 (.turn 24 (.take 25 .done))))))))) 5 (.take 8 (.take 9 (.turn 1 (.take 3 (.take 4 (.take 22 (.turn 23 (.turn 24 (.take 25 .done)))))))))))))))))))))))))) (by kernel_rfl) (by kernel_rfl) trivial ?_
            simp only [planWL, List.getElem?_cons_zero, List.getElem?_cons_succ]
            obtain ⟨wd, hwd⟩ : ∃ z, wr.drew = z := ⟨_, rfl⟩
            have HBD : Hid (Below wB.heap.size wB wd) := Lib.hid (by rw [← hwd]; exact below_drew hbw.out)
            have HOD : Hid (wd.ownsRow Bz 47 7 (.slice A7 k c7) k ((wI (rs.take k)).flatMap itC)) := Lib.hid (by rw [← hwd]; exact ho.out)
            have HZwd : Hid (wd.heap.size ≤ wd.heap.size) := Lib.hid (Nat.le_refl _)
            have HRN : Hid (∀ q, (Value.slice A7 k c7).ownBlock = some q → q < wd.heap.size) := Lib.hid (fun q hq => (HOD.out.lt q hq).2)
            rw [hwd]
            clear hwd
            repeat (first | (refine planW_on _ (by rfl) (fun W hW => by (go_simp; try with_reducible rfl)) ?_; simp only [Act.put, List.setIfInBounds_toArray, List.set_cons_zero, List.set_cons_succ]) | (refine planW_off (by rfl) ?_; simp only [Act.put, List.setIfInBounds_toArray, List.set_cons_zero, List.set_cons_succ]))
            refine planW_tri ?_ ?_ ?_
            · have HCu1 := Lib.hid (things_any wd)
              go_wp2_with fail
              refine HCu1.out.mono ?_
              rintro e u1 ⟨rfl, hu1⟩
              obtain ⟨g1, hg1⟩ : ∃ q, wd.heap.size = q := ⟨_, rfl⟩
              have HKu1 : Hid (Blk u1 g1 9 thA) := Lib.hid (by rw [hu1, ← hg1]; exact Blk.new _ _ _)
              have HBu1 : Hid (Below wB.heap.size wB u1) := Lib.hid (by rw [hu1]; exact HBD.out.alloc HBD.out.size _)
              have HOu1 : Hid (u1.ownsRow Bz 47 7 (.slice A7 k c7) k ((wI (rs.take k)).flatMap itC)) := Lib.hid (by rw [hu1]; exact HOD.out.alloc _)
              have HWu1 : Hid (KpW (.slice A7 k c7) wd u1) := Lib.hid (by rw [hu1]; exact KpW.new _ _ _)
              have HZu1 : Hid (wd.heap.size ≤ u1.heap.size) := Lib.hid (Nat.le_trans HZwd.out (Kept.size HWu1.out))
              have HGu1 : Hid (wd.heap.size ≤ g1) := Lib.hid (by rw [← hg1]; exact HZwd.out)
              have HQu1 : Hid (∀ X, KpW (.slice A7 k c7) u1 X → X.cell? ⟨g1, k, none⟩ = some (.string nm)) := Lib.hid (fun X hX => by rw [Kept.cell hX (p := ⟨g1, k, none⟩) HKu1.out.lt (fun h => by have h1 := HRN.out _ h; have h2 := HGu1.out; have h3 : g1 < wd.heap.size := h1; omega), HKu1.out.cell]; exact HNM.out)
              clear HCu1 hu1
              go_wp2_with fail
              try rw [hg1]
              clear hg1
              refine ⟨KpW (.slice A7 k c7) u1, fun X h => trivial, KpW.self _ _, ?_⟩
              repeat (first | (refine planW_on _ (by rfl) (fun W hW => by (have zq := HQu1.out W hW; go_simp; try with_reducible rfl)) ?_; simp only [Act.put, List.setIfInBounds_toArray, List.set_cons_zero, List.set_cons_succ]) | (refine planW_off (by rfl) ?_; simp only [Act.put, List.setIfInBounds_toArray, List.set_cons_zero, List.set_cons_succ]))
              refine planW_fork ?_ ?_
              · obtain ⟨g2, hg2⟩ : ∃ q, u1.heap.size = q := ⟨_, rfl⟩
                obtain ⟨u2, hu2⟩ : ∃ z, u1.alloc (.cells #[.string ⟨#[109, 48]⟩, .string ⟨#[109, 49]⟩] 9) = z := ⟨_, rfl⟩
                have HKu2 : Hid (Blk u2 g2 9 #[.string ⟨#[109, 48]⟩, .string ⟨#[109, 49]⟩]) := Lib.hid (by rw [← hu2, ← hg2]; exact Blk.new _ _ _)
                have HKu2_1 : Hid (Blk u2 g1 9 thA) := Lib.hid (by rw [← hu2]; exact HKu1.out.alloc _)
                have HBu2 : Hid (Below wB.heap.size wB u2) := Lib.hid (by rw [← hu2]; exact HBu1.out.alloc HBu1.out.size _)
                have HOu2 : Hid (u2.ownsRow Bz 47 7 (.slice A7 k c7) k ((wI (rs.take k)).flatMap itC)) := Lib.hid (by rw [← hu2]; exact HOu1.out.alloc _)
                have HWu2 : Hid (KpW (.slice A7 k c7) u1 u2) := Lib.hid (by rw [← hu2]; exact KpW.new _ _ _)
                have HZu2 : Hid (wd.heap.size ≤ u2.heap.size) := Lib.hid (Nat.le_trans HZu1.out (Kept.size HWu2.out))
                have HGu2 : Hid (wd.heap.size ≤ g2) := Lib.hid (by rw [← hg2]; exact HZu1.out)
                have HQu2 : Hid (∀ X, KpW (.slice A7 k c7) u2 X → X.cell? ⟨g2, a2, none⟩ = some (.string mk)) := Lib.hid (fun X hX => by rw [Kept.cell hX (p := ⟨g2, a2, none⟩) HKu2.out.lt (fun h => by have h1 := HRN.out _ h; have h2 := HGu2.out; have h3 : g2 < wd.heap.size := h1; omega), HKu2.out.cell]; exact HMK.out)
                go_wp2_with fail
                try rw [hg2]
                try rw [hu2]
                clear hg2 hu2
                refine ⟨KpW (.slice A7 k c7) u2, fun X h => HWu2.out.step h, KpW.self _ _, ?_⟩
                repeat (first | (refine planW_on _ (by rfl) (fun W hW => by (have zq := HQu2.out W hW; go_simp; try with_reducible rfl)) ?_; simp only [Act.put, List.setIfInBounds_toArray, List.set_cons_zero, List.set_cons_succ]) | (refine planW_off (by rfl) ?_; simp only [Act.put, List.setIfInBounds_toArray, List.set_cons_zero, List.set_cons_succ]))
                refine planW_turn ?_
                obtain ⟨g3, hg3⟩ : ∃ q, u2.heap.size = q := ⟨_, rfl⟩
                obtain ⟨u3, hu3⟩ : ∃ z, u2.alloc (.cells #[.string ⟨#[]⟩, .string ⟨#[116, 48]⟩, .string ⟨#[116, 48, 44, 116, 49]⟩] 9) = z := ⟨_, rfl⟩
                have HKu3 : Hid (Blk u3 g3 9 #[.string ⟨#[]⟩, .string ⟨#[116, 48]⟩, .string ⟨#[116, 48, 44, 116, 49]⟩]) := Lib.hid (by rw [← hu3, ← hg3]; exact Blk.new _ _ _)
                have HKu3_1 : Hid (Blk u3 g1 9 thA) := Lib.hid (by rw [← hu3]; exact HKu2_1.out.alloc _)
                have HKu3_5 : Hid (Blk u3 g2 9 #[.string ⟨#[109, 48]⟩, .string ⟨#[109, 49]⟩]) := Lib.hid (by rw [← hu3]; exact HKu2.out.alloc _)
                have HBu3 : Hid (Below wB.heap.size wB u3) := Lib.hid (by rw [← hu3]; exact HBu2.out.alloc HBu2.out.size _)
                have HOu3 : Hid (u3.ownsRow Bz 47 7 (.slice A7 k c7) k ((wI (rs.take k)).flatMap itC)) := Lib.hid (by rw [← hu3]; exact HOu2.out.alloc _)
                have HWu3 : Hid (KpW (.slice A7 k c7) u2 u3) := Lib.hid (by rw [← hu3]; exact KpW.new _ _ _)
                have HZu3 : Hid (wd.heap.size ≤ u3.heap.size) := Lib.hid (Nat.le_trans HZu2.out (Kept.size HWu3.out))
                have HGu3 : Hid (wd.heap.size ≤ g3) := Lib.hid (by rw [← hg3]; exact HZu2.out)
                have HQu3 : Hid (∀ X, KpW (.slice A7 k c7) u3 X → X.cell? ⟨g3, b3, none⟩ = some (.string tg)) := Lib.hid (fun X hX => by rw [Kept.cell hX (p := ⟨g3, b3, none⟩) HKu3.out.lt (fun h => by have h1 := HRN.out _ h; have h2 := HGu3.out; have h3 : g3 < wd.heap.size := h1; omega), HKu3.out.cell]; exact HTG.out)
                go_wp2_with fail
                try rw [hg3]
                try rw [hu3]
                clear hg3 hu3
                refine ⟨KpW (.slice A7 k c7) u3, fun X h => HWu3.out.step h, KpW.self _ _, ?_⟩
                repeat (first | (refine planW_on _ (by rfl) (fun W hW => by (have zq := HQu3.out W hW; go_simp; try with_reducible rfl)) ?_; simp only [Act.put, List.setIfInBounds_toArray, List.set_cons_zero, List.set_cons_succ]) | (refine planW_off (by rfl) ?_; simp only [Act.put, List.setIfInBounds_toArray, List.set_cons_zero, List.set_cons_succ]))
                obtain ⟨u4, hu4⟩ : ∃ z, u3.alloc (.cells #[.string nm, .string mk, .string tg, .int .i64 (c4 : Int), .int .i64 (r : Int), .int .i64 0, .bool false] 47) = z := ⟨_, rfl⟩
                have HRu4 : Hid (RowIn u4 (u3.heap.size + 1) 7 (some ⟨u3.heap.size, 0, none⟩) 1 (itC ⟨nm, mk, tg, (c4 : Int), (r : Int), 0, false⟩)) := Lib.hid (by rw [← hu4]; exact it1_row u3 ⟨nm, mk, tg, (c4 : Int), (r : Int), 0, false⟩ _)
                have HOu4 : Hid (u4.ownsRow Bz 47 7 (.slice A7 k c7) k ((wI (rs.take k)).flatMap itC)) := Lib.hid (by rw [← hu4]; exact HOu3.out.alloc _)
                have HBu4 : Hid (Below wB.heap.size wB u4) := Lib.hid (by rw [← hu4]; exact HBu3.out.alloc HBu3.out.size _)
                have HWu4 : Hid (KpW (.slice A7 k c7) u3 u4) := Lib.hid (by rw [← hu4]; exact KpW.new _ _ _)
                have hsu4 : u3.heap.size + 1 = u4.heap.size := by rw [← hu4]; simp
                have hqu4 : Bz ≤ u4.heap.size := by have := HBu4.out.size; rw [HBZ.out] at this; exact this
                refine planW_turn ?_
                go_wp2_with fail
                try rw [hu4]
                clear hu4
                refine ⟨KpW (.slice A7 k c7) u4, fun X h => HWu4.out.step h, KpW.self _ _, ?_⟩
                refine planW_turn ?_
                go_wp2_with (at_builtin; refine wpList_append_row _ rfl _ _ 43 rfl Bz 47 iI _ 7 80 Tryz.underlying43 ii0 iz0 iz1 iz2 rfl (by omega) (.slice A7 k c7) k _ rfl HOu4.out (u3.heap.size + 1) (some ⟨u3.heap.size, 0, none⟩) 1 1 _ rfl HRu4.out (fun h => by cases h) (it_one _) (by unfold maxLen; omega) (by omega) (by omega) ?_; intro v8 w8 ho8 hg8 hv8)
                obtain ⟨A8, c8, hv⟩ := own_shape ho8
                subst hv
                have HB8 : Hid (Below wB.heap.size wB w8) := Lib.hid (HBu4.out.grown hg8 HBu4.out.size (fun j hj => by have := (HOu4.out.lt _ hj).1; rw [HBZ.out]; exact this))
                have HS8 : Hid (KpW (.slice A7 k c7) u4 w8) := Lib.hid (Kept.grown (Kept.refl _ _) hg8 (fun j hj => Or.inl hj))
                have HO8 : Hid (w8.ownsRow Bz 47 7 (.slice A8 (k + 1) c8) (k + 1) ((wI (rs.take (k + 1))).flatMap itC)) := Lib.hid (by rw [HSN.out, HWI.out, List.flatMap_append, List.flatMap_cons, List.flatMap_nil, List.append_nil]; exact ho8)
                refine ⟨KpW (.slice A7 k c7) u4, fun X h => h, HS8.out, ?_⟩
                repeat (first | (refine planW_on _ (by rfl) (fun W hW => by (go_simp; try with_reducible rfl)) ?_; simp only [Act.put, List.setIfInBounds_toArray, List.set_cons_zero, List.set_cons_succ]) | (refine planW_off (by rfl) ?_; simp only [Act.put, List.setIfInBounds_toArray, List.set_cons_zero, List.set_cons_succ]))
                refine planW_done ?_
                go_wp2_with fail
                go_meet
                exact ⟨A8, c8, rfl, HO8, HB8⟩
              · obtain ⟨g5, hg5⟩ : ∃ q, u1.heap.size = q := ⟨_, rfl⟩
                obtain ⟨u5, hu5⟩ : ∃ z, u1.alloc (.cells #[.string ⟨#[]⟩, .string ⟨#[116, 48]⟩, .string ⟨#[116, 48, 44, 116, 49]⟩] 9) = z := ⟨_, rfl⟩
                have HKu5 : Hid (Blk u5 g5 9 #[.string ⟨#[]⟩, .string ⟨#[116, 48]⟩, .string ⟨#[116, 48, 44, 116, 49]⟩]) := Lib.hid (by rw [← hu5, ← hg5]; exact Blk.new _ _ _)
                have HKu5_1 : Hid (Blk u5 g1 9 thA) := Lib.hid (by rw [← hu5]; exact HKu1.out.alloc _)
                have HBu5 : Hid (Below wB.heap.size wB u5) := Lib.hid (by rw [← hu5]; exact HBu1.out.alloc HBu1.out.size _)
                have HOu5 : Hid (u5.ownsRow Bz 47 7 (.slice A7 k c7) k ((wI (rs.take k)).flatMap itC)) := Lib.hid (by rw [← hu5]; exact HOu1.out.alloc _)
                have HWu5 : Hid (KpW (.slice A7 k c7) u1 u5) := Lib.hid (by rw [← hu5]; exact KpW.new _ _ _)
                have HZu5 : Hid (wd.heap.size ≤ u5.heap.size) := Lib.hid (Nat.le_trans HZu1.out (Kept.size HWu5.out))
                have HGu5 : Hid (wd.heap.size ≤ g5) := Lib.hid (by rw [← hg5]; exact HZu1.out)
                have HQu5 : Hid (∀ X, KpW (.slice A7 k c7) u5 X → X.cell? ⟨g5, b3, none⟩ = some (.string tg)) := Lib.hid (fun X hX => by rw [Kept.cell hX (p := ⟨g5, b3, none⟩) HKu5.out.lt (fun h => by have h1 := HRN.out _ h; have h2 := HGu5.out; have h3 : g5 < wd.heap.size := h1; omega), HKu5.out.cell]; exact HTG.out)
                go_wp2_with fail
                try rw [hg5]
                try rw [hu5]
                clear hg5 hu5
                refine ⟨KpW (.slice A7 k c7) u5, fun X h => HWu5.out.step h, KpW.self _ _, ?_⟩
                repeat (first | (refine planW_on _ (by rfl) (fun W hW => by (have zq := HQu5.out W hW; go_simp; try with_reducible rfl)) ?_; simp only [Act.put, List.setIfInBounds_toArray, List.set_cons_zero, List.set_cons_succ]) | (refine planW_off (by rfl) ?_; simp only [Act.put, List.setIfInBounds_toArray, List.set_cons_zero, List.set_cons_succ]))
                refine planW_turn ?_
                obtain ⟨g6, hg6⟩ : ∃ q, u5.heap.size = q := ⟨_, rfl⟩
                obtain ⟨u6, hu6⟩ : ∃ z, u5.alloc (.cells #[.string ⟨#[109, 48]⟩, .string ⟨#[109, 49]⟩] 9) = z := ⟨_, rfl⟩
                have HKu6 : Hid (Blk u6 g6 9 #[.string ⟨#[109, 48]⟩, .string ⟨#[109, 49]⟩]) := Lib.hid (by rw [← hu6, ← hg6]; exact Blk.new _ _ _)
                have HKu6_1 : Hid (Blk u6 g1 9 thA) := Lib.hid (by rw [← hu6]; exact HKu5_1.out.alloc _)
                have HKu6_10 : Hid (Blk u6 g5 9 #[.string ⟨#[]⟩, .string ⟨#[116, 48]⟩, .string ⟨#[116, 48, 44, 116, 49]⟩]) := Lib.hid (by rw [← hu6]; exact HKu5.out.alloc _)
                have HBu6 : Hid (Below wB.heap.size wB u6) := Lib.hid (by rw [← hu6]; exact HBu5.out.alloc HBu5.out.size _)
                have HOu6 : Hid (u6.ownsRow Bz 47 7 (.slice A7 k c7) k ((wI (rs.take k)).flatMap itC)) := Lib.hid (by rw [← hu6]; exact HOu5.out.alloc _)
                have HWu6 : Hid (KpW (.slice A7 k c7) u5 u6) := Lib.hid (by rw [← hu6]; exact KpW.new _ _ _)
                have HZu6 : Hid (wd.heap.size ≤ u6.heap.size) := Lib.hid (Nat.le_trans HZu5.out (Kept.size HWu6.out))
                have HGu6 : Hid (wd.heap.size ≤ g6) := Lib.hid (by rw [← hg6]; exact HZu5.out)
                have HQu6 : Hid (∀ X, KpW (.slice A7 k c7) u6 X → X.cell? ⟨g6, a2, none⟩ = some (.string mk)) := Lib.hid (fun X hX => by rw [Kept.cell hX (p := ⟨g6, a2, none⟩) HKu6.out.lt (fun h => by have h1 := HRN.out _ h; have h2 := HGu6.out; have h3 : g6 < wd.heap.size := h1; omega), HKu6.out.cell]; exact HMK.out)
                go_wp2_with fail
                try rw [hg6]
                try rw [hu6]
                clear hg6 hu6
                refine ⟨KpW (.slice A7 k c7) u6, fun X h => HWu6.out.step h, KpW.self _ _, ?_⟩
                repeat (first | (refine planW_on _ (by rfl) (fun W hW => by (have zq := HQu6.out W hW; go_simp; try with_reducible rfl)) ?_; simp only [Act.put, List.setIfInBounds_toArray, List.set_cons_zero, List.set_cons_succ]) | (refine planW_off (by rfl) ?_; simp only [Act.put, List.setIfInBounds_toArray, List.set_cons_zero, List.set_cons_succ]))
                obtain ⟨u7, hu7⟩ : ∃ z, u6.alloc (.cells #[.string nm, .string mk, .string tg, .int .i64 (c4 : Int), .int .i64 (r : Int), .int .i64 0, .bool false] 47) = z := ⟨_, rfl⟩
                have HRu7 : Hid (RowIn u7 (u6.heap.size + 1) 7 (some ⟨u6.heap.size, 0, none⟩) 1 (itC ⟨nm, mk, tg, (c4 : Int), (r : Int), 0, false⟩)) := Lib.hid (by rw [← hu7]; exact it1_row u6 ⟨nm, mk, tg, (c4 : Int), (r : Int), 0, false⟩ _)
                have HOu7 : Hid (u7.ownsRow Bz 47 7 (.slice A7 k c7) k ((wI (rs.take k)).flatMap itC)) := Lib.hid (by rw [← hu7]; exact HOu6.out.alloc _)
                have HBu7 : Hid (Below wB.heap.size wB u7) := Lib.hid (by rw [← hu7]; exact HBu6.out.alloc HBu6.out.size _)
                have HWu7 : Hid (KpW (.slice A7 k c7) u6 u7) := Lib.hid (by rw [← hu7]; exact KpW.new _ _ _)
                have hsu7 : u6.heap.size + 1 = u7.heap.size := by rw [← hu7]; simp
                have hqu7 : Bz ≤ u7.heap.size := by have := HBu7.out.size; rw [HBZ.out] at this; exact this
                refine planW_turn ?_
                go_wp2_with fail
                try rw [hu7]
                clear hu7
                refine ⟨KpW (.slice A7 k c7) u7, fun X h => HWu7.out.step h, KpW.self _ _, ?_⟩
                refine planW_turn ?_
                go_wp2_with (at_builtin; refine wpList_append_row _ rfl _ _ 43 rfl Bz 47 iI _ 7 80 Tryz.underlying43 ii0 iz0 iz1 iz2 rfl (by omega) (.slice A7 k c7) k _ rfl HOu7.out (u6.heap.size + 1) (some ⟨u6.heap.size, 0, none⟩) 1 1 _ rfl HRu7.out (fun h => by cases h) (it_one _) (by unfold maxLen; omega) (by omega) (by omega) ?_; intro v8 w8 ho8 hg8 hv8)
                obtain ⟨A8, c8, hv⟩ := own_shape ho8
                subst hv
                have HB8 : Hid (Below wB.heap.size wB w8) := Lib.hid (HBu7.out.grown hg8 HBu7.out.size (fun j hj => by have := (HOu7.out.lt _ hj).1; rw [HBZ.out]; exact this))
                have HS8 : Hid (KpW (.slice A7 k c7) u7 w8) := Lib.hid (Kept.grown (Kept.refl _ _) hg8 (fun j hj => Or.inl hj))
                have HO8 : Hid (w8.ownsRow Bz 47 7 (.slice A8 (k + 1) c8) (k + 1) ((wI (rs.take (k + 1))).flatMap itC)) := Lib.hid (by rw [HSN.out, HWI.out, List.flatMap_append, List.flatMap_cons, List.flatMap_nil, List.append_nil]; exact ho8)
                refine ⟨KpW (.slice A7 k c7) u7, fun X h => h, HS8.out, ?_⟩
                repeat (first | (refine planW_on _ (by rfl) (fun W hW => by (go_simp; try with_reducible rfl)) ?_; simp only [Act.put, List.setIfInBounds_toArray, List.set_cons_zero, List.set_cons_succ]) | (refine planW_off (by rfl) ?_; simp only [Act.put, List.setIfInBounds_toArray, List.set_cons_zero, List.set_cons_succ]))
                refine planW_done ?_
                go_wp2_with fail
                go_meet
                exact ⟨A8, c8, rfl, HO8, HB8⟩
            · obtain ⟨g8, hg8⟩ : ∃ q, wd.heap.size = q := ⟨_, rfl⟩
              obtain ⟨u8, hu8⟩ : ∃ z, wd.alloc (.cells #[.string ⟨#[109, 48]⟩, .string ⟨#[109, 49]⟩] 9) = z := ⟨_, rfl⟩
              have HKu8 : Hid (Blk u8 g8 9 #[.string ⟨#[109, 48]⟩, .string ⟨#[109, 49]⟩]) := Lib.hid (by rw [← hu8, ← hg8]; exact Blk.new _ _ _)
              have HBu8 : Hid (Below wB.heap.size wB u8) := Lib.hid (by rw [← hu8]; exact HBD.out.alloc HBD.out.size _)
              have HOu8 : Hid (u8.ownsRow Bz 47 7 (.slice A7 k c7) k ((wI (rs.take k)).flatMap itC)) := Lib.hid (by rw [← hu8]; exact HOD.out.alloc _)
              have HWu8 : Hid (KpW (.slice A7 k c7) wd u8) := Lib.hid (by rw [← hu8]; exact KpW.new _ _ _)
              have HZu8 : Hid (wd.heap.size ≤ u8.heap.size) := Lib.hid (Nat.le_trans HZwd.out (Kept.size HWu8.out))
              have HGu8 : Hid (wd.heap.size ≤ g8) := Lib.hid (by rw [← hg8]; exact HZwd.out)
              have HQu8 : Hid (∀ X, KpW (.slice A7 k c7) u8 X → X.cell? ⟨g8, a2, none⟩ = some (.string mk)) := Lib.hid (fun X hX => by rw [Kept.cell hX (p := ⟨g8, a2, none⟩) HKu8.out.lt (fun h => by have h1 := HRN.out _ h; have h2 := HGu8.out; have h3 : g8 < wd.heap.size := h1; omega), HKu8.out.cell]; exact HMK.out)
              go_wp2_with fail
              try rw [hg8]
              try rw [hu8]
              clear hg8 hu8
              refine ⟨KpW (.slice A7 k c7) u8, fun X h => trivial, KpW.self _ _, ?_⟩
              repeat (first | (refine planW_on _ (by rfl) (fun W hW => by (have zq := HQu8.out W hW; go_simp; try with_reducible rfl)) ?_; simp only [Act.put, List.setIfInBounds_toArray, List.set_cons_zero, List.set_cons_succ]) | (refine planW_off (by rfl) ?_; simp only [Act.put, List.setIfInBounds_toArray, List.set_cons_zero, List.set_cons_succ]))
              refine planW_fork ?_ ?_
              · have HCu9 := Lib.hid (things_any u8)
                go_wp2_with fail
                refine HCu9.out.mono ?_
                rintro e u9 ⟨rfl, hu9⟩
                obtain ⟨g9, hg9⟩ : ∃ q, u8.heap.size = q := ⟨_, rfl⟩
                have HKu9 : Hid (Blk u9 g9 9 thA) := Lib.hid (by rw [hu9, ← hg9]; exact Blk.new _ _ _)
                have HKu9_5 : Hid (Blk u9 g8 9 #[.string ⟨#[109, 48]⟩, .string ⟨#[109, 49]⟩]) := Lib.hid (by rw [hu9]; exact HKu8.out.alloc _)
                have HBu9 : Hid (Below wB.heap.size wB u9) := Lib.hid (by rw [hu9]; exact HBu8.out.alloc HBu8.out.size _)
                have HOu9 : Hid (u9.ownsRow Bz 47 7 (.slice A7 k c7) k ((wI (rs.take k)).flatMap itC)) := Lib.hid (by rw [hu9]; exact HOu8.out.alloc _)
                have HWu9 : Hid (KpW (.slice A7 k c7) u8 u9) := Lib.hid (by rw [hu9]; exact KpW.new _ _ _)
                have HZu9 : Hid (wd.heap.size ≤ u9.heap.size) := Lib.hid (Nat.le_trans HZu8.out (Kept.size HWu9.out))
                have HGu9 : Hid (wd.heap.size ≤ g9) := Lib.hid (by rw [← hg9]; exact HZu8.out)
                have HQu9 : Hid (∀ X, KpW (.slice A7 k c7) u9 X → X.cell? ⟨g9, k, none⟩ = some (.string nm)) := Lib.hid (fun X hX => by rw [Kept.cell hX (p := ⟨g9, k, none⟩) HKu9.out.lt (fun h => by have h1 := HRN.out _ h; have h2 := HGu9.out; have h3 : g9 < wd.heap.size := h1; omega), HKu9.out.cell]; exact HNM.out)
                clear HCu9 hu9
                go_wp2_with fail
                try rw [hg9]
                clear hg9
                refine ⟨KpW (.slice A7 k c7) u9, fun X h => HWu9.out.step h, KpW.self _ _, ?_⟩
                repeat (first | (refine planW_on _ (by rfl) (fun W hW => by (have zq := HQu9.out W hW; go_simp; try with_reducible rfl)) ?_; simp only [Act.put, List.setIfInBounds_toArray, List.set_cons_zero, List.set_cons_succ]) | (refine planW_off (by rfl) ?_; simp only [Act.put, List.setIfInBounds_toArray, List.set_cons_zero, List.set_cons_succ]))
                refine planW_turn ?_
                obtain ⟨g10, hg10⟩ : ∃ q, u9.heap.size = q := ⟨_, rfl⟩
                obtain ⟨u10, hu10⟩ : ∃ z, u9.alloc (.cells #[.string ⟨#[]⟩, .string ⟨#[116, 48]⟩, .string ⟨#[116, 48, 44, 116, 49]⟩] 9) = z := ⟨_, rfl⟩
                have HKu10 : Hid (Blk u10 g10 9 #[.string ⟨#[]⟩, .string ⟨#[116, 48]⟩, .string ⟨#[116, 48, 44, 116, 49]⟩]) := Lib.hid (by rw [← hu10, ← hg10]; exact Blk.new _ _ _)
                have HKu10_5 : Hid (Blk u10 g8 9 #[.string ⟨#[109, 48]⟩, .string ⟨#[109, 49]⟩]) := Lib.hid (by rw [← hu10]; exact HKu9_5.out.alloc _)
                have HKu10_1 : Hid (Blk u10 g9 9 thA) := Lib.hid (by rw [← hu10]; exact HKu9.out.alloc _)
                have HBu10 : Hid (Below wB.heap.size wB u10) := Lib.hid (by rw [← hu10]; exact HBu9.out.alloc HBu9.out.size _)
                have HOu10 : Hid (u10.ownsRow Bz 47 7 (.slice A7 k c7) k ((wI (rs.take k)).flatMap itC)) := Lib.hid (by rw [← hu10]; exact HOu9.out.alloc _)
                have HWu10 : Hid (KpW (.slice A7 k c7) u9 u10) := Lib.hid (by rw [← hu10]; exact KpW.new _ _ _)
                have HZu10 : Hid (wd.heap.size ≤ u10.heap.size) := Lib.hid (Nat.le_trans HZu9.out (Kept.size HWu10.out))
                have HGu10 : Hid (wd.heap.size ≤ g10) := Lib.hid (by rw [← hg10]; exact HZu9.out)
                have HQu10 : Hid (∀ X, KpW (.slice A7 k c7) u10 X → X.cell? ⟨g10, b3, none⟩ = some (.string tg)) := Lib.hid (fun X hX => by rw [Kept.cell hX (p := ⟨g10, b3, none⟩) HKu10.out.lt (fun h => by have h1 := HRN.out _ h; have h2 := HGu10.out; have h3 : g10 < wd.heap.size := h1; omega), HKu10.out.cell]; exact HTG.out)
                go_wp2_with fail
                try rw [hg10]
                try rw [hu10]
                clear hg10 hu10
                refine ⟨KpW (.slice A7 k c7) u10, fun X h => HWu10.out.step h, KpW.self _ _, ?_⟩
                repeat (first | (refine planW_on _ (by rfl) (fun W hW => by (have zq := HQu10.out W hW; go_simp; try with_reducible rfl)) ?_; simp only [Act.put, List.setIfInBounds_toArray, List.set_cons_zero, List.set_cons_succ]) | (refine planW_off (by rfl) ?_; simp only [Act.put, List.setIfInBounds_toArray, List.set_cons_zero, List.set_cons_succ]))
                obtain ⟨u11, hu11⟩ : ∃ z, u10.alloc (.cells #[.string nm, .string mk, .string tg, .int .i64 (c4 : Int), .int .i64 (r : Int), .int .i64 0, .bool false] 47) = z := ⟨_, rfl⟩
                have HRu11 : Hid (RowIn u11 (u10.heap.size + 1) 7 (some ⟨u10.heap.size, 0, none⟩) 1 (itC ⟨nm, mk, tg, (c4 : Int), (r : Int), 0, false⟩)) := Lib.hid (by rw [← hu11]; exact it1_row u10 ⟨nm, mk, tg, (c4 : Int), (r : Int), 0, false⟩ _)
                have HOu11 : Hid (u11.ownsRow Bz 47 7 (.slice A7 k c7) k ((wI (rs.take k)).flatMap itC)) := Lib.hid (by rw [← hu11]; exact HOu10.out.alloc _)
                have HBu11 : Hid (Below wB.heap.size wB u11) := Lib.hid (by rw [← hu11]; exact HBu10.out.alloc HBu10.out.size _)
                have HWu11 : Hid (KpW (.slice A7 k c7) u10 u11) := Lib.hid (by rw [← hu11]; exact KpW.new _ _ _)
                have hsu11 : u10.heap.size + 1 = u11.heap.size := by rw [← hu11]; simp
                have hqu11 : Bz ≤ u11.heap.size := by have := HBu11.out.size; rw [HBZ.out] at this; exact this
                refine planW_turn ?_
                go_wp2_with fail
                try rw [hu11]
                clear hu11
                refine ⟨KpW (.slice A7 k c7) u11, fun X h => HWu11.out.step h, KpW.self _ _, ?_⟩
                refine planW_turn ?_
                go_wp2_with (at_builtin; refine wpList_append_row _ rfl _ _ 43 rfl Bz 47 iI _ 7 80 Tryz.underlying43 ii0 iz0 iz1 iz2 rfl (by omega) (.slice A7 k c7) k _ rfl HOu11.out (u10.heap.size + 1) (some ⟨u10.heap.size, 0, none⟩) 1 1 _ rfl HRu11.out (fun h => by cases h) (it_one _) (by unfold maxLen; omega) (by omega) (by omega) ?_; intro v8 w8 ho8 hg8 hv8)
                obtain ⟨A8, c8, hv⟩ := own_shape ho8
                subst hv
                have HB8 : Hid (Below wB.heap.size wB w8) := Lib.hid (HBu11.out.grown hg8 HBu11.out.size (fun j hj => by have := (HOu11.out.lt _ hj).1; rw [HBZ.out]; exact this))
                have HS8 : Hid (KpW (.slice A7 k c7) u11 w8) := Lib.hid (Kept.grown (Kept.refl _ _) hg8 (fun j hj => Or.inl hj))
                have HO8 : Hid (w8.ownsRow Bz 47 7 (.slice A8 (k + 1) c8) (k + 1) ((wI (rs.take (k + 1))).flatMap itC)) := Lib.hid (by rw [HSN.out, HWI.out, List.flatMap_append, List.flatMap_cons, List.flatMap_nil, List.append_nil]; exact ho8)
                refine ⟨KpW (.slice A7 k c7) u11, fun X h => h, HS8.out, ?_⟩
                repeat (first | (refine planW_on _ (by rfl) (fun W hW => by (go_simp; try with_reducible rfl)) ?_; simp only [Act.put, List.setIfInBounds_toArray, List.set_cons_zero, List.set_cons_succ]) | (refine planW_off (by rfl) ?_; simp only [Act.put, List.setIfInBounds_toArray, List.set_cons_zero, List.set_cons_succ]))
                refine planW_done ?_
                go_wp2_with fail
                go_meet
                exact ⟨A8, c8, rfl, HO8, HB8⟩
              · obtain ⟨g12, hg12⟩ : ∃ q, u8.heap.size = q := ⟨_, rfl⟩
                obtain ⟨u12, hu12⟩ : ∃ z, u8.alloc (.cells #[.string ⟨#[]⟩, .string ⟨#[116, 48]⟩, .string ⟨#[116, 48, 44, 116, 49]⟩] 9) = z := ⟨_, rfl⟩
                have HKu12 : Hid (Blk u12 g12 9 #[.string ⟨#[]⟩, .string ⟨#[116, 48]⟩, .string ⟨#[116, 48, 44, 116, 49]⟩]) := Lib.hid (by rw [← hu12, ← hg12]; exact Blk.new _ _ _)
                have HKu12_5 : Hid (Blk u12 g8 9 #[.string ⟨#[109, 48]⟩, .string ⟨#[109, 49]⟩]) := Lib.hid (by rw [← hu12]; exact HKu8.out.alloc _)
                have HBu12 : Hid (Below wB.heap.size wB u12) := Lib.hid (by rw [← hu12]; exact HBu8.out.alloc HBu8.out.size _)
                have HOu12 : Hid (u12.ownsRow Bz 47 7 (.slice A7 k c7) k ((wI (rs.take k)).flatMap itC)) := Lib.hid (by rw [← hu12]; exact HOu8.out.alloc _)
                have HWu12 : Hid (KpW (.slice A7 k c7) u8 u12) := Lib.hid (by rw [← hu12]; exact KpW.new _ _ _)
                have HZu12 : Hid (wd.heap.size ≤ u12.heap.size) := Lib.hid (Nat.le_trans HZu8.out (Kept.size HWu12.out))
                have HGu12 : Hid (wd.heap.size ≤ g12) := Lib.hid (by rw [← hg12]; exact HZu8.out)
                have HQu12 : Hid (∀ X, KpW (.slice A7 k c7) u12 X → X.cell? ⟨g12, b3, none⟩ = some (.string tg)) := Lib.hid (fun X hX => by rw [Kept.cell hX (p := ⟨g12, b3, none⟩) HKu12.out.lt (fun h => by have h1 := HRN.out _ h; have h2 := HGu12.out; have h3 : g12 < wd.heap.size := h1; omega), HKu12.out.cell]; exact HTG.out)
                go_wp2_with fail
                try rw [hg12]
                try rw [hu12]
                clear hg12 hu12
                refine ⟨KpW (.slice A7 k c7) u12, fun X h => HWu12.out.step h, KpW.self _ _, ?_⟩
                repeat (first | (refine planW_on _ (by rfl) (fun W hW => by (have zq := HQu12.out W hW; go_simp; try with_reducible rfl)) ?_; simp only [Act.put, List.setIfInBounds_toArray, List.set_cons_zero, List.set_cons_succ]) | (refine planW_off (by rfl) ?_; simp only [Act.put, List.setIfInBounds_toArray, List.set_cons_zero, List.set_cons_succ]))
                refine planW_turn ?_
                have HCu13 := Lib.hid (things_any u12)
                go_wp2_with fail
                refine HCu13.out.mono ?_
                rintro e u13 ⟨rfl, hu13⟩
                obtain ⟨g13, hg13⟩ : ∃ q, u12.heap.size = q := ⟨_, rfl⟩
                have HKu13 : Hid (Blk u13 g13 9 thA) := Lib.hid (by rw [hu13, ← hg13]; exact Blk.new _ _ _)
                have HKu13_5 : Hid (Blk u13 g8 9 #[.string ⟨#[109, 48]⟩, .string ⟨#[109, 49]⟩]) := Lib.hid (by rw [hu13]; exact HKu12_5.out.alloc _)
                have HKu13_10 : Hid (Blk u13 g12 9 #[.string ⟨#[]⟩, .string ⟨#[116, 48]⟩, .string ⟨#[116, 48, 44, 116, 49]⟩]) := Lib.hid (by rw [hu13]; exact HKu12.out.alloc _)
                have HBu13 : Hid (Below wB.heap.size wB u13) := Lib.hid (by rw [hu13]; exact HBu12.out.alloc HBu12.out.size _)
                have HOu13 : Hid (u13.ownsRow Bz 47 7 (.slice A7 k c7) k ((wI (rs.take k)).flatMap itC)) := Lib.hid (by rw [hu13]; exact HOu12.out.alloc _)
                have HWu13 : Hid (KpW (.slice A7 k c7) u12 u13) := Lib.hid (by rw [hu13]; exact KpW.new _ _ _)
                have HZu13 : Hid (wd.heap.size ≤ u13.heap.size) := Lib.hid (Nat.le_trans HZu12.out (Kept.size HWu13.out))
                have HGu13 : Hid (wd.heap.size ≤ g13) := Lib.hid (by rw [← hg13]; exact HZu12.out)
                have HQu13 : Hid (∀ X, KpW (.slice A7 k c7) u13 X → X.cell? ⟨g13, k, none⟩ = some (.string nm)) := Lib.hid (fun X hX => by rw [Kept.cell hX (p := ⟨g13, k, none⟩) HKu13.out.lt (fun h => by have h1 := HRN.out _ h; have h2 := HGu13.out; have h3 : g13 < wd.heap.size := h1; omega), HKu13.out.cell]; exact HNM.out)
                clear HCu13 hu13
                go_wp2_with fail
                try rw [hg13]
                clear hg13
                refine ⟨KpW (.slice A7 k c7) u13, fun X h => HWu13.out.step h, KpW.self _ _, ?_⟩
                repeat (first | (refine planW_on _ (by rfl) (fun W hW => by (have zq := HQu13.out W hW; go_simp; try with_reducible rfl)) ?_; simp only [Act.put, List.setIfInBounds_toArray, List.set_cons_zero, List.set_cons_succ]) | (refine planW_off (by rfl) ?_; simp only [Act.put, List.setIfInBounds_toArray, List.set_cons_zero, List.set_cons_succ]))
                obtain ⟨u14, hu14⟩ : ∃ z, u13.alloc (.cells #[.string nm, .string mk, .string tg, .int .i64 (c4 : Int), .int .i64 (r : Int), .int .i64 0, .bool false] 47) = z := ⟨_, rfl⟩
                have HRu14 : Hid (RowIn u14 (u13.heap.size + 1) 7 (some ⟨u13.heap.size, 0, none⟩) 1 (itC ⟨nm, mk, tg, (c4 : Int), (r : Int), 0, false⟩)) := Lib.hid (by rw [← hu14]; exact it1_row u13 ⟨nm, mk, tg, (c4 : Int), (r : Int), 0, false⟩ _)
                have HOu14 : Hid (u14.ownsRow Bz 47 7 (.slice A7 k c7) k ((wI (rs.take k)).flatMap itC)) := Lib.hid (by rw [← hu14]; exact HOu13.out.alloc _)
                have HBu14 : Hid (Below wB.heap.size wB u14) := Lib.hid (by rw [← hu14]; exact HBu13.out.alloc HBu13.out.size _)
                have HWu14 : Hid (KpW (.slice A7 k c7) u13 u14) := Lib.hid (by rw [← hu14]; exact KpW.new _ _ _)
                have hsu14 : u13.heap.size + 1 = u14.heap.size := by rw [← hu14]; simp
                have hqu14 : Bz ≤ u14.heap.size := by have := HBu14.out.size; rw [HBZ.out] at this; exact this
                refine planW_turn ?_
                go_wp2_with fail
                try rw [hu14]
                clear hu14
                refine ⟨KpW (.slice A7 k c7) u14, fun X h => HWu14.out.step h, KpW.self _ _, ?_⟩
                refine planW_turn ?_
                go_wp2_with (at_builtin; refine wpList_append_row _ rfl _ _ 43 rfl Bz 47 iI _ 7 80 Tryz.underlying43 ii0 iz0 iz1 iz2 rfl (by omega) (.slice A7 k c7) k _ rfl HOu14.out (u13.heap.size + 1) (some ⟨u13.heap.size, 0, none⟩) 1 1 _ rfl HRu14.out (fun h => by cases h) (it_one _) (by unfold maxLen; omega) (by omega) (by omega) ?_; intro v8 w8 ho8 hg8 hv8)
                obtain ⟨A8, c8, hv⟩ := own_shape ho8
                subst hv
                have HB8 : Hid (Below wB.heap.size wB w8) := Lib.hid (HBu14.out.grown hg8 HBu14.out.size (fun j hj => by have := (HOu14.out.lt _ hj).1; rw [HBZ.out]; exact this))
                have HS8 : Hid (KpW (.slice A7 k c7) u14 w8) := Lib.hid (Kept.grown (Kept.refl _ _) hg8 (fun j hj => Or.inl hj))
                have HO8 : Hid (w8.ownsRow Bz 47 7 (.slice A8 (k + 1) c8) (k + 1) ((wI (rs.take (k + 1))).flatMap itC)) := Lib.hid (by rw [HSN.out, HWI.out, List.flatMap_append, List.flatMap_cons, List.flatMap_nil, List.append_nil]; exact ho8)
                refine ⟨KpW (.slice A7 k c7) u14, fun X h => h, HS8.out, ?_⟩
                repeat (first | (refine planW_on _ (by rfl) (fun W hW => by (go_simp; try with_reducible rfl)) ?_; simp only [Act.put, List.setIfInBounds_toArray, List.set_cons_zero, List.set_cons_succ]) | (refine planW_off (by rfl) ?_; simp only [Act.put, List.setIfInBounds_toArray, List.set_cons_zero, List.set_cons_succ]))
                refine planW_done ?_
                go_wp2_with fail
                go_meet
                exact ⟨A8, c8, rfl, HO8, HB8⟩
            · obtain ⟨g15, hg15⟩ : ∃ q, wd.heap.size = q := ⟨_, rfl⟩
              obtain ⟨u15, hu15⟩ : ∃ z, wd.alloc (.cells #[.string ⟨#[]⟩, .string ⟨#[116, 48]⟩, .string ⟨#[116, 48, 44, 116, 49]⟩] 9) = z := ⟨_, rfl⟩
              have HKu15 : Hid (Blk u15 g15 9 #[.string ⟨#[]⟩, .string ⟨#[116, 48]⟩, .string ⟨#[116, 48, 44, 116, 49]⟩]) := Lib.hid (by rw [← hu15, ← hg15]; exact Blk.new _ _ _)
              have HBu15 : Hid (Below wB.heap.size wB u15) := Lib.hid (by rw [← hu15]; exact HBD.out.alloc HBD.out.size _)
              have HOu15 : Hid (u15.ownsRow Bz 47 7 (.slice A7 k c7) k ((wI (rs.take k)).flatMap itC)) := Lib.hid (by rw [← hu15]; exact HOD.out.alloc _)
              have HWu15 : Hid (KpW (.slice A7 k c7) wd u15) := Lib.hid (by rw [← hu15]; exact KpW.new _ _ _)
              have HZu15 : Hid (wd.heap.size ≤ u15.heap.size) := Lib.hid (Nat.le_trans HZwd.out (Kept.size HWu15.out))
              have HGu15 : Hid (wd.heap.size ≤ g15) := Lib.hid (by rw [← hg15]; exact HZwd.out)
              have HQu15 : Hid (∀ X, KpW (.slice A7 k c7) u15 X → X.cell? ⟨g15, b3, none⟩ = some (.string tg)) := Lib.hid (fun X hX => by rw [Kept.cell hX (p := ⟨g15, b3, none⟩) HKu15.out.lt (fun h => by have h1 := HRN.out _ h; have h2 := HGu15.out; have h3 : g15 < wd.heap.size := h1; omega), HKu15.out.cell]; exact HTG.out)
              go_wp2_with fail
              try rw [hg15]
              try rw [hu15]
              clear hg15 hu15
              refine ⟨KpW (.slice A7 k c7) u15, fun X h => trivial, KpW.self _ _, ?_⟩
              repeat (first | (refine planW_on _ (by rfl) (fun W hW => by (have zq := HQu15.out W hW; go_simp; try with_reducible rfl)) ?_; simp only [Act.put, List.setIfInBounds_toArray, List.set_cons_zero, List.set_cons_succ]) | (refine planW_off (by rfl) ?_; simp only [Act.put, List.setIfInBounds_toArray, List.set_cons_zero, List.set_cons_succ]))
              refine planW_fork ?_ ?_
              · have HCu16 := Lib.hid (things_any u15)
                go_wp2_with fail
                refine HCu16.out.mono ?_
                rintro e u16 ⟨rfl, hu16⟩
                obtain ⟨g16, hg16⟩ : ∃ q, u15.heap.size = q := ⟨_, rfl⟩
                have HKu16 : Hid (Blk u16 g16 9 thA) := Lib.hid (by rw [hu16, ← hg16]; exact Blk.new _ _ _)
                have HKu16_10 : Hid (Blk u16 g15 9 #[.string ⟨#[]⟩, .string ⟨#[116, 48]⟩, .string ⟨#[116, 48, 44, 116, 49]⟩]) := Lib.hid (by rw [hu16]; exact HKu15.out.alloc _)
                have HBu16 : Hid (Below wB.heap.size wB u16) := Lib.hid (by rw [hu16]; exact HBu15.out.alloc HBu15.out.size _)
                have HOu16 : Hid (u16.ownsRow Bz 47 7 (.slice A7 k c7) k ((wI (rs.take k)).flatMap itC)) := Lib.hid (by rw [hu16]; exact HOu15.out.alloc _)
                have HWu16 : Hid (KpW (.slice A7 k c7) u15 u16) := Lib.hid (by rw [hu16]; exact KpW.new _ _ _)
                have HZu16 : Hid (wd.heap.size ≤ u16.heap.size) := Lib.hid (Nat.le_trans HZu15.out (Kept.size HWu16.out))
                have HGu16 : Hid (wd.heap.size ≤ g16) := Lib.hid (by rw [← hg16]; exact HZu15.out)
                have HQu16 : Hid (∀ X, KpW (.slice A7 k c7) u16 X → X.cell? ⟨g16, k, none⟩ = some (.string nm)) := Lib.hid (fun X hX => by rw [Kept.cell hX (p := ⟨g16, k, none⟩) HKu16.out.lt (fun h => by have h1 := HRN.out _ h; have h2 := HGu16.out; have h3 : g16 < wd.heap.size := h1; omega), HKu16.out.cell]; exact HNM.out)
                clear HCu16 hu16
                go_wp2_with fail
                try rw [hg16]
                clear hg16
                refine ⟨KpW (.slice A7 k c7) u16, fun X h => HWu16.out.step h, KpW.self _ _, ?_⟩
                repeat (first | (refine planW_on _ (by rfl) (fun W hW => by (have zq := HQu16.out W hW; go_simp; try with_reducible rfl)) ?_; simp only [Act.put, List.setIfInBounds_toArray, List.set_cons_zero, List.set_cons_succ]) | (refine planW_off (by rfl) ?_; simp only [Act.put, List.setIfInBounds_toArray, List.set_cons_zero, List.set_cons_succ]))
                refine planW_turn ?_
                obtain ⟨g17, hg17⟩ : ∃ q, u16.heap.size = q := ⟨_, rfl⟩
                obtain ⟨u17, hu17⟩ : ∃ z, u16.alloc (.cells #[.string ⟨#[109, 48]⟩, .string ⟨#[109, 49]⟩] 9) = z := ⟨_, rfl⟩
                have HKu17 : Hid (Blk u17 g17 9 #[.string ⟨#[109, 48]⟩, .string ⟨#[109, 49]⟩]) := Lib.hid (by rw [← hu17, ← hg17]; exact Blk.new _ _ _)
                have HKu17_10 : Hid (Blk u17 g15 9 #[.string ⟨#[]⟩, .string ⟨#[116, 48]⟩, .string ⟨#[116, 48, 44, 116, 49]⟩]) := Lib.hid (by rw [← hu17]; exact HKu16_10.out.alloc _)
                have HKu17_1 : Hid (Blk u17 g16 9 thA) := Lib.hid (by rw [← hu17]; exact HKu16.out.alloc _)
                have HBu17 : Hid (Below wB.heap.size wB u17) := Lib.hid (by rw [← hu17]; exact HBu16.out.alloc HBu16.out.size _)
                have HOu17 : Hid (u17.ownsRow Bz 47 7 (.slice A7 k c7) k ((wI (rs.take k)).flatMap itC)) := Lib.hid (by rw [← hu17]; exact HOu16.out.alloc _)
                have HWu17 : Hid (KpW (.slice A7 k c7) u16 u17) := Lib.hid (by rw [← hu17]; exact KpW.new _ _ _)
                have HZu17 : Hid (wd.heap.size ≤ u17.heap.size) := Lib.hid (Nat.le_trans HZu16.out (Kept.size HWu17.out))
                have HGu17 : Hid (wd.heap.size ≤ g17) := Lib.hid (by rw [← hg17]; exact HZu16.out)
                have HQu17 : Hid (∀ X, KpW (.slice A7 k c7) u17 X → X.cell? ⟨g17, a2, none⟩ = some (.string mk)) := Lib.hid (fun X hX => by rw [Kept.cell hX (p := ⟨g17, a2, none⟩) HKu17.out.lt (fun h => by have h1 := HRN.out _ h; have h2 := HGu17.out; have h3 : g17 < wd.heap.size := h1; omega), HKu17.out.cell]; exact HMK.out)
                go_wp2_with fail
                try rw [hg17]
                try rw [hu17]
                clear hg17 hu17
                refine ⟨KpW (.slice A7 k c7) u17, fun X h => HWu17.out.step h, KpW.self _ _, ?_⟩
                repeat (first | (refine planW_on _ (by rfl) (fun W hW => by (have zq := HQu17.out W hW; go_simp; try with_reducible rfl)) ?_; simp only [Act.put, List.setIfInBounds_toArray, List.set_cons_zero, List.set_cons_succ]) | (refine planW_off (by rfl) ?_; simp only [Act.put, List.setIfInBounds_toArray, List.set_cons_zero, List.set_cons_succ]))
                obtain ⟨u18, hu18⟩ : ∃ z, u17.alloc (.cells #[.string nm, .string mk, .string tg, .int .i64 (c4 : Int), .int .i64 (r : Int), .int .i64 0, .bool false] 47) = z := ⟨_, rfl⟩
                have HRu18 : Hid (RowIn u18 (u17.heap.size + 1) 7 (some ⟨u17.heap.size, 0, none⟩) 1 (itC ⟨nm, mk, tg, (c4 : Int), (r : Int), 0, false⟩)) := Lib.hid (by rw [← hu18]; exact it1_row u17 ⟨nm, mk, tg, (c4 : Int), (r : Int), 0, false⟩ _)
                have HOu18 : Hid (u18.ownsRow Bz 47 7 (.slice A7 k c7) k ((wI (rs.take k)).flatMap itC)) := Lib.hid (by rw [← hu18]; exact HOu17.out.alloc _)
                have HBu18 : Hid (Below wB.heap.size wB u18) := Lib.hid (by rw [← hu18]; exact HBu17.out.alloc HBu17.out.size _)
                have HWu18 : Hid (KpW (.slice A7 k c7) u17 u18) := Lib.hid (by rw [← hu18]; exact KpW.new _ _ _)
                have hsu18 : u17.heap.size + 1 = u18.heap.size := by rw [← hu18]; simp
                have hqu18 : Bz ≤ u18.heap.size := by have := HBu18.out.size; rw [HBZ.out] at this; exact this
                refine planW_turn ?_
                go_wp2_with fail
                try rw [hu18]
                clear hu18
                refine ⟨KpW (.slice A7 k c7) u18, fun X h => HWu18.out.step h, KpW.self _ _, ?_⟩
                refine planW_turn ?_
                go_wp2_with (at_builtin; refine wpList_append_row _ rfl _ _ 43 rfl Bz 47 iI _ 7 80 Tryz.underlying43 ii0 iz0 iz1 iz2 rfl (by omega) (.slice A7 k c7) k _ rfl HOu18.out (u17.heap.size + 1) (some ⟨u17.heap.size, 0, none⟩) 1 1 _ rfl HRu18.out (fun h => by cases h) (it_one _) (by unfold maxLen; omega) (by omega) (by omega) ?_; intro v8 w8 ho8 hg8 hv8)
                obtain ⟨A8, c8, hv⟩ := own_shape ho8
                subst hv
                have HB8 : Hid (Below wB.heap.size wB w8) := Lib.hid (HBu18.out.grown hg8 HBu18.out.size (fun j hj => by have := (HOu18.out.lt _ hj).1; rw [HBZ.out]; exact this))
                have HS8 : Hid (KpW (.slice A7 k c7) u18 w8) := Lib.hid (Kept.grown (Kept.refl _ _) hg8 (fun j hj => Or.inl hj))
                have HO8 : Hid (w8.ownsRow Bz 47 7 (.slice A8 (k + 1) c8) (k + 1) ((wI (rs.take (k + 1))).flatMap itC)) := Lib.hid (by rw [HSN.out, HWI.out, List.flatMap_append, List.flatMap_cons, List.flatMap_nil, List.append_nil]; exact ho8)
                refine ⟨KpW (.slice A7 k c7) u18, fun X h => h, HS8.out, ?_⟩
                repeat (first | (refine planW_on _ (by rfl) (fun W hW => by (go_simp; try with_reducible rfl)) ?_; simp only [Act.put, List.setIfInBounds_toArray, List.set_cons_zero, List.set_cons_succ]) | (refine planW_off (by rfl) ?_; simp only [Act.put, List.setIfInBounds_toArray, List.set_cons_zero, List.set_cons_succ]))
                refine planW_done ?_
                go_wp2_with fail
                go_meet
                exact ⟨A8, c8, rfl, HO8, HB8⟩
              · obtain ⟨g19, hg19⟩ : ∃ q, u15.heap.size = q := ⟨_, rfl⟩
                obtain ⟨u19, hu19⟩ : ∃ z, u15.alloc (.cells #[.string ⟨#[109, 48]⟩, .string ⟨#[109, 49]⟩] 9) = z := ⟨_, rfl⟩
                have HKu19 : Hid (Blk u19 g19 9 #[.string ⟨#[109, 48]⟩, .string ⟨#[109, 49]⟩]) := Lib.hid (by rw [← hu19, ← hg19]; exact Blk.new _ _ _)
                have HKu19_10 : Hid (Blk u19 g15 9 #[.string ⟨#[]⟩, .string ⟨#[116, 48]⟩, .string ⟨#[116, 48, 44, 116, 49]⟩]) := Lib.hid (by rw [← hu19]; exact HKu15.out.alloc _)
                have HBu19 : Hid (Below wB.heap.size wB u19) := Lib.hid (by rw [← hu19]; exact HBu15.out.alloc HBu15.out.size _)
                have HOu19 : Hid (u19.ownsRow Bz 47 7 (.slice A7 k c7) k ((wI (rs.take k)).flatMap itC)) := Lib.hid (by rw [← hu19]; exact HOu15.out.alloc _)
                have HWu19 : Hid (KpW (.slice A7 k c7) u15 u19) := Lib.hid (by rw [← hu19]; exact KpW.new _ _ _)
                have HZu19 : Hid (wd.heap.size ≤ u19.heap.size) := Lib.hid (Nat.le_trans HZu15.out (Kept.size HWu19.out))
                have HGu19 : Hid (wd.heap.size ≤ g19) := Lib.hid (by rw [← hg19]; exact HZu15.out)
                have HQu19 : Hid (∀ X, KpW (.slice A7 k c7) u19 X → X.cell? ⟨g19, a2, none⟩ = some (.string mk)) := Lib.hid (fun X hX => by rw [Kept.cell hX (p := ⟨g19, a2, none⟩) HKu19.out.lt (fun h => by have h1 := HRN.out _ h; have h2 := HGu19.out; have h3 : g19 < wd.heap.size := h1; omega), HKu19.out.cell]; exact HMK.out)
                go_wp2_with fail
                try rw [hg19]
                try rw [hu19]
                clear hg19 hu19
                refine ⟨KpW (.slice A7 k c7) u19, fun X h => HWu19.out.step h, KpW.self _ _, ?_⟩
                repeat (first | (refine planW_on _ (by rfl) (fun W hW => by (have zq := HQu19.out W hW; go_simp; try with_reducible rfl)) ?_; simp only [Act.put, List.setIfInBounds_toArray, List.set_cons_zero, List.set_cons_succ]) | (refine planW_off (by rfl) ?_; simp only [Act.put, List.setIfInBounds_toArray, List.set_cons_zero, List.set_cons_succ]))
                refine planW_turn ?_
                have HCu20 := Lib.hid (things_any u19)
                go_wp2_with fail
                refine HCu20.out.mono ?_
                rintro e u20 ⟨rfl, hu20⟩
                obtain ⟨g20, hg20⟩ : ∃ q, u19.heap.size = q := ⟨_, rfl⟩
                have HKu20 : Hid (Blk u20 g20 9 thA) := Lib.hid (by rw [hu20, ← hg20]; exact Blk.new _ _ _)
                have HKu20_10 : Hid (Blk u20 g15 9 #[.string ⟨#[]⟩, .string ⟨#[116, 48]⟩, .string ⟨#[116, 48, 44, 116, 49]⟩]) := Lib.hid (by rw [hu20]; exact HKu19_10.out.alloc _)
                have HKu20_5 : Hid (Blk u20 g19 9 #[.string ⟨#[109, 48]⟩, .string ⟨#[109, 49]⟩]) := Lib.hid (by rw [hu20]; exact HKu19.out.alloc _)
                have HBu20 : Hid (Below wB.heap.size wB u20) := Lib.hid (by rw [hu20]; exact HBu19.out.alloc HBu19.out.size _)
                have HOu20 : Hid (u20.ownsRow Bz 47 7 (.slice A7 k c7) k ((wI (rs.take k)).flatMap itC)) := Lib.hid (by rw [hu20]; exact HOu19.out.alloc _)
                have HWu20 : Hid (KpW (.slice A7 k c7) u19 u20) := Lib.hid (by rw [hu20]; exact KpW.new _ _ _)
                have HZu20 : Hid (wd.heap.size ≤ u20.heap.size) := Lib.hid (Nat.le_trans HZu19.out (Kept.size HWu20.out))
                have HGu20 : Hid (wd.heap.size ≤ g20) := Lib.hid (by rw [← hg20]; exact HZu19.out)
                have HQu20 : Hid (∀ X, KpW (.slice A7 k c7) u20 X → X.cell? ⟨g20, k, none⟩ = some (.string nm)) := Lib.hid (fun X hX => by rw [Kept.cell hX (p := ⟨g20, k, none⟩) HKu20.out.lt (fun h => by have h1 := HRN.out _ h; have h2 := HGu20.out; have h3 : g20 < wd.heap.size := h1; omega), HKu20.out.cell]; exact HNM.out)
                clear HCu20 hu20
                go_wp2_with fail
                try rw [hg20]
                clear hg20
                refine ⟨KpW (.slice A7 k c7) u20, fun X h => HWu20.out.step h, KpW.self _ _, ?_⟩
                repeat (first | (refine planW_on _ (by rfl) (fun W hW => by (have zq := HQu20.out W hW; go_simp; try with_reducible rfl)) ?_; simp only [Act.put, List.setIfInBounds_toArray, List.set_cons_zero, List.set_cons_succ]) | (refine planW_off (by rfl) ?_; simp only [Act.put, List.setIfInBounds_toArray, List.set_cons_zero, List.set_cons_succ]))
                obtain ⟨u21, hu21⟩ : ∃ z, u20.alloc (.cells #[.string nm, .string mk, .string tg, .int .i64 (c4 : Int), .int .i64 (r : Int), .int .i64 0, .bool false] 47) = z := ⟨_, rfl⟩
                have HRu21 : Hid (RowIn u21 (u20.heap.size + 1) 7 (some ⟨u20.heap.size, 0, none⟩) 1 (itC ⟨nm, mk, tg, (c4 : Int), (r : Int), 0, false⟩)) := Lib.hid (by rw [← hu21]; exact it1_row u20 ⟨nm, mk, tg, (c4 : Int), (r : Int), 0, false⟩ _)
                have HOu21 : Hid (u21.ownsRow Bz 47 7 (.slice A7 k c7) k ((wI (rs.take k)).flatMap itC)) := Lib.hid (by rw [← hu21]; exact HOu20.out.alloc _)
                have HBu21 : Hid (Below wB.heap.size wB u21) := Lib.hid (by rw [← hu21]; exact HBu20.out.alloc HBu20.out.size _)
                have HWu21 : Hid (KpW (.slice A7 k c7) u20 u21) := Lib.hid (by rw [← hu21]; exact KpW.new _ _ _)
                have hsu21 : u20.heap.size + 1 = u21.heap.size := by rw [← hu21]; simp
                have hqu21 : Bz ≤ u21.heap.size := by have := HBu21.out.size; rw [HBZ.out] at this; exact this
                refine planW_turn ?_
                go_wp2_with fail
                try rw [hu21]
                clear hu21
                refine ⟨KpW (.slice A7 k c7) u21, fun X h => HWu21.out.step h, KpW.self _ _, ?_⟩
                refine planW_turn ?_
                go_wp2_with (at_builtin; refine wpList_append_row _ rfl _ _ 43 rfl Bz 47 iI _ 7 80 Tryz.underlying43 ii0 iz0 iz1 iz2 rfl (by omega) (.slice A7 k c7) k _ rfl HOu21.out (u20.heap.size + 1) (some ⟨u20.heap.size, 0, none⟩) 1 1 _ rfl HRu21.out (fun h => by cases h) (it_one _) (by unfold maxLen; omega) (by omega) (by omega) ?_; intro v8 w8 ho8 hg8 hv8)
                obtain ⟨A8, c8, hv⟩ := own_shape ho8
                subst hv
                have HB8 : Hid (Below wB.heap.size wB w8) := Lib.hid (HBu21.out.grown hg8 HBu21.out.size (fun j hj => by have := (HOu21.out.lt _ hj).1; rw [HBZ.out]; exact this))
                have HS8 : Hid (KpW (.slice A7 k c7) u21 w8) := Lib.hid (Kept.grown (Kept.refl _ _) hg8 (fun j hj => Or.inl hj))
                have HO8 : Hid (w8.ownsRow Bz 47 7 (.slice A8 (k + 1) c8) (k + 1) ((wI (rs.take (k + 1))).flatMap itC)) := Lib.hid (by rw [HSN.out, HWI.out, List.flatMap_append, List.flatMap_cons, List.flatMap_nil, List.append_nil]; exact ho8)
                refine ⟨KpW (.slice A7 k c7) u21, fun X h => h, HS8.out, ?_⟩
                repeat (first | (refine planW_on _ (by rfl) (fun W hW => by (go_simp; try with_reducible rfl)) ?_; simp only [Act.put, List.setIfInBounds_toArray, List.set_cons_zero, List.set_cons_succ]) | (refine planW_off (by rfl) ?_; simp only [Act.put, List.setIfInBounds_toArray, List.set_cons_zero, List.set_cons_succ]))
                refine planW_done ?_
                go_wp2_with fail
                go_meet
                exact ⟨A8, c8, rfl, HO8, HB8⟩
          case rest =>
            obtain ⟨A8, c8, rfl, ho8, hb8⟩ := hcut
            go_wp2_with fail
            go_roundw
            case rel => exact ⟨k + 1, A8, c8, by omega, by go_num, rfl, ho8, hb8⟩
            case measure => simp [intOf]; omega
        · obtain rfl : m = k := by omega
          have hk8 : ¬ (m : Int) < (m : Int) := by omega
          have HRT : Hid (rs.take m = rs) := Lib.hid (by rw [← HM.out, List.take_length])
          have HOW : Hid (wr.ownsRow Bz 47 7 (.slice A7 m c7) m ((wI rs).flatMap itC)) := Lib.hid (by have h := ho.out; rw [HRT.out] at h; exact h)
          have HCB : Hid (CatAt wr cb F' es) := Lib.hid (HCA.out.below hbw.out)
          have HBR : Hid (Below w.heap.size w wr) := Lib.hid (HBW.out.trans (hbw.out.mono HBW.out.size))
          have HRF : Hid (∀ g o, A7 = some (⟨g, o, none⟩ : Addr) → ¬ F' g) := Lib.hid (fun g o h hq => by
            have h1 : g < wB.heap.size := HCA.out.lt g hq
            have h2 := (HOW.out.lt g (by rw [h]; rfl)).1
            rw [← HBZ.out] at h2
            omega)
          obtain ⟨wC, hwC⟩ : ∃ q, wr = q := ⟨_, rfl⟩
          rw [hwC] at HOW HCB HBR ⊢
          clear hwC ho hbw HRT HCA
          have HM6 : Hid (rs.length ≤ 6) := Lib.hid (by rw [HM.out]; exact hm6)
          have hE := HEB.out
          have HNM1 : Hid ((wI rs).length = m) := Lib.hid (by rw [wI_len]; exact HM.out)
          obtain ⟨t, ht⟩ : ∃ t, E + 1 = t := ⟨_, rfl⟩
          have ht1 : 1001 ≤ t ∧ t ≤ 10001 := by omega
          rw [ht] at HES
          have HD1 := Lib.hid (diff_any wC cb F' es t feedN 1 wC.heap.size A7 (wI rs) m c7 HCB.out (by have := HESL.out; omega) (by decide) HNM1.out (RowIn.of_own HOW.out) (Nat.le_refl _) (by omega) (fun x hx => (wI_few HM6.out x hx).sh) (HGL.out.keep HBR.out (Nat.le_refl _)))
          unfold feedN at HD1
          go_wp2_with fail
          refine HD1.out.mono ?_
          rintro e wb ⟨Ab, cc, o1, rfl, hd1, ho1, hev1, ⟨_, hlo⟩, hbb⟩
          have hd1 : IsDiff es t feedN 1 (wR rs) o1 := hd1
          have HBb : Hid (Below w.heap.size w wb) := Lib.hid (HBR.out.trans (hbb.mono HBR.out.size))
          have HCb : Hid (CatAt wb cb F' es) := Lib.hid (HCB.out.below hbb)
          have HRW : Hid (RowIn wb wC.heap.size 7 A7 m ((wI rs).flatMap itC)) := Lib.hid ((RowIn.of_own HOW.out).below hbb)
          have HWC : Hid (wC.heap.size ≤ wb.heap.size) := Lib.hid hbb.size
          obtain ⟨ns, hns, hnl⟩ := names_ex2 es t (wR rs)
          have hrl : (rawD es t feedN (wR rs) ns).length ≤ 700 := by
            refine Nat.le_trans (len_raw _ _ _ _ _) ?_
            have := HESL.out
            have := wR_len rs
            have := HM6.out
            omega
          have hgo : goesD (wR rs) feedN t 1 = true := by
            unfold goesD
            rw [wR_ok HM6.out, feed_name, decide_eq_true (show 0 ≤ t by omega), decide_eq_true (show t ≤ 1099511627776 by omega)]
            rfl
          have ho : o1 = numD 1 (rawD es t feedN (wR rs) ns) := by
            have := hd1.2 hgo ns hns
            rwa [if_neg (by omega)] at this
          have HNS := Lib.hid hns
          have HRL := Lib.hid hrl
          have HO := Lib.hid ho
          have HEV1 := Lib.hid hev1
          have HFLT : Hid (∀ q, F' q → q < wC.heap.size) := Lib.hid (fun q hq => HCB.out.lt q hq)
          have HLO : Hid (∀ ad, Ab = some ad → ¬ F' ad.block) := Lib.hid (fun ad h hq => by have := hlo ad h; have := HFLT.out _ hq; omega)
          obtain ⟨N, hN⟩ : ∃ N, o1.length = N := ⟨_, rfl⟩
          have hN4 : N ≤ 700 := by rw [← hN, HO.out, numD_len]; exact HRL.out
          have HLN := Lib.hid hN
          have HLO2 : Hid (0 < N → ∀ ad, Ab = some ad → ¬ F' ad.block ∧ ad.block < wb.heap.size) := Lib.hid (fun h0 ad h => ⟨HLO.out ad h, by
            rcases HEV1.out.2 with h1 | ⟨b, off, h1, h2, _⟩
            · omega
            · rw [h1] at h; cases h; exact h2⟩)
          have HT : Hid (0 ≤ t ∧ t ≤ 1099511627776) := Lib.hid (by omega)
          rw [hN]
          clear hd1 hev1 hbb HD1 hns hnl hrl hgo ho hlo ho1 hN HLO ht hE
          go_wp2_with fail
          go_loopw [97] (fun i wr => ∃ k : Nat, k ≤ N ∧ i = .int .i64 (k : Nat) ∧ Hid (∃ F2 : Nat → Prop, CatAt wr cb F2 (es ++ o1.take k) ∧ (∀ q, F2 q → F' q ∨ wb.heap.size ≤ q) ∧ (0 < N → ∀ ad, Ab = some ad → ¬ F2 ad.block ∧ ad.block < wr.heap.size)) ∧ Hid (EvsAt wr wr.heap.size Ab o1) ∧ Hid (Kept F' wb wr)) (fun i _ => N - (intOf i).toNat)
          case atStart => exact ⟨0, Nat.zero_le _, rfl, Lib.hid ⟨F', by rw [List.take_zero, List.append_nil]; exact HCb.out, fun q hq => Or.inl hq, HLO2.out⟩, HEV1, Lib.hid (Kept.refl _ _)⟩
          case round =>
            clear HEV1 HLO2
            obtain ⟨k, hk, rfl, hcat, hev, hkw⟩ := hrel
            have HBw : Hid (Below w.heap.size w wr) := Lib.hid (HBb.out.trans (hkw.out.toBelow HFA.out HBb.out.size))
            by_cases hlt : k < N
            · obtain ⟨x, hx⟩ : ∃ x, o1[k]? = some x := ⟨o1[k]'(by rw [HLN.out]; exact hlt), List.getElem?_eq_getElem _⟩
              obtain ⟨g, o, rfl, hgB, hcl⟩ := hev.out.at (by rw [HLN.out]; omega)
              obtain ⟨e0, e1, e2, e3, e4, e5, e6, e7⟩ := hcl k x hx
              obtain ⟨F2, hc2, hf2, hA2⟩ := hcat.out
              have hx2 := hx
              rw [HO.out] at hx2
              have htk : takesB (es ++ o1.take k) x = true := by
                have h := (lead_takes (n := 1) (fun e he => (HES.out e he).2) (fun e he => hc2.may e (List.mem_append.2 (Or.inl he))) feed_name HT.out (wR_ok HM6.out) HNS.out (by omega) (by have := HRL.out; omega) hx2).1
                rwa [← HO.out] at h
              have hxs : EvSh x := by
                obtain ⟨y0, hy0, rfl⟩ := num_get hx2
                exact raw_sh (fun e he => (HES.out e he).1) (by decide) (wR_few HM6.out) HNS.out y0 (List.mem_of_getElem? hy0) _
              have HAF : Hid (aftP (es ++ o1.take k) x = es ++ o1.take (k + 1)) := Lib.hid (by unfold aftP; rw [htk, if_pos rfl, List.append_assoc, ← take_snoc hx])
              obtain ⟨wa, hwa⟩ : ∃ wa, wr.alloc (.cells #[.string x.src, .int .i64 x.num, .int .i64 x.tick, .int .i64 x.kind, .string x.person, .string x.item, .int .i64 x.value, .string x.text] 41) = wa := ⟨_, rfl⟩
              have HBa : Hid (Below wr.heap.size wr wa) := Lib.hid (by rw [← hwa]; exact (Below.refl _ _).alloc (Nat.le_refl _) _)
              have hXa : Blk wa wr.heap.size 41 #[.string x.src, .int .i64 x.num, .int .i64 x.tick, .int .i64 x.kind, .string x.person, .string x.item, .int .i64 x.value, .string x.text] := by rw [← hwa]; exact Blk.new _ _ _
              have HBA : Hid (Below w.heap.size w wa) := Lib.hid (HBw.out.trans (HBa.out.mono HBw.out.size))
              have HFW : Hid (∀ q, F2 q → w.heap.size ≤ q) := Lib.hid (fun q hq => (hf2 q hq).elim (HFA.out q) (fun h => Nat.le_trans HBb.out.size h))
              have HA := Lib.hid (apply_any cb F2 (es ++ o1.take k) x wa (hc2.below HBa.out) hxs (HGL.out.keep HBA.out (Nat.le_refl _)) (by have := HESL.out; rw [List.length_append, List.length_take, HLN.out]; omega) (fun i hi hFi => by have := HFW.out i hFi; have := HGS.out; omega))
              rw [htk, HAF.out] at HA
              have HFF := Lib.hid hf2
              have HAA := Lib.hid hA2
              have hk8 : (k : Int) < (N : Int) := by omega
              have hk9 : (0 : Int) ≤ (k : Int) := by omega
              unfold evA at HA
              have HGF : Hid (¬ F2 g) := Lib.hid (hA2 (by omega) _ rfl).1
              have HEVK := Lib.hid (hev.out)
              obtain ⟨sb, hsb⟩ : ∃ b, wr.heap.size = b := ⟨_, rfl⟩
              rw [hsb] at hXa
              have d0 : wa.cell? ⟨sb, 0, none⟩ = some (.string x.src) := hXa.cell 0
              have d1 : wa.cell? ⟨sb, 1, none⟩ = some (.int .i64 x.num) := hXa.cell 1
              have d2 : wa.cell? ⟨sb, 2, none⟩ = some (.int .i64 x.tick) := hXa.cell 2
              have d3 : wa.cell? ⟨sb, 3, none⟩ = some (.int .i64 x.kind) := hXa.cell 3
              have d4 : wa.cell? ⟨sb, 4, none⟩ = some (.string x.person) := hXa.cell 4
              have d5 : wa.cell? ⟨sb, 5, none⟩ = some (.string x.item) := hXa.cell 5
              have d6 : wa.cell? ⟨sb, 6, none⟩ = some (.int .i64 x.value) := hXa.cell 6
              have d7 : wa.cell? ⟨sb, 7, none⟩ = some (.string x.text) := hXa.cell 7
              clear hcl hx hx2 htk hxs hc2 hf2 hA2 hcat hXa hev
              go_upto_region 20 with fail
              (try simp only [Exit.inBlock, Exit.then])
              try rw [hwa]
              try rw [hsb]
              clear hwa hsb e0 e1 e2 e3 e4 e5 e6 e7
              go_wp2_with fail
              refine HA.out.mono ?_
              rintro e w6 ⟨rfl, F3, hc3, hs3, hf3, hk3⟩
              have HK6 : Hid (Kept F' wb w6) := Lib.hid ((hkw.out.below HBa.out hkw.out.size).trans' hk3 (fun i hi h => (HFF.out i h).elim id (fun h => by omega)))
              have HE6 : Hid (EvsAt w6 w6.heap.size (some ⟨g, o, none⟩) o1) := Lib.hid ((evs_off (HEVK.out.below HBa.out) hk3 HBa.out.size (fun h0 ad h => by cases h; exact HGF.out)).more (Nat.le_trans HBa.out.size hk3.size))
              have HCF : Hid (∃ F2 : Nat → Prop, CatAt w6 cb F2 (es ++ o1.take (k + 1)) ∧ (∀ q, F2 q → F' q ∨ wb.heap.size ≤ q) ∧ (0 < N → ∀ ad, some (⟨g, o, none⟩ : Addr) = some ad → ¬ F2 ad.block ∧ ad.block < w6.heap.size)) := Lib.hid ⟨F3, hc3, fun q hq => (hf3 q hq).elim (HFF.out q) (fun h => Or.inr (Nat.le_trans hkw.out.size (Nat.le_trans HBa.out.size h))), fun h0 ad h => by
                cases h
                refine ⟨fun hq => ?_, Nat.lt_of_lt_of_le (Nat.lt_of_lt_of_le hgB HBa.out.size) hk3.size⟩
                rcases hf3 _ hq with h | h
                · exact HGF.out h
                · have h : wa.heap.size ≤ g := h
                  have := HBa.out.size
                  omega⟩
              clear HA hc3 hs3 hf3 hk3 d0 d1 d2 d3 d4 d5 d6 d7
              go_wp2_with fail
              go_roundw
              case rel => exact ⟨k + 1, by omega, by go_num, HCF, HE6, HK6⟩
              case measure => simp [intOf]; omega
            · obtain rfl : N = k := by omega
              have hk8 : ¬ (N : Int) < (N : Int) := by omega
              obtain ⟨F2, hc2, hf2, hA2⟩ := hcat.out
              have HCL : Hid (CatAt wr cb F2 (es ++ o1)) := Lib.hid (by rwa [← HLN.out, List.take_length] at hc2)
              have HRR : Hid (RowIn wr wC.heap.size 7 A7 m ((wI rs).flatMap itC)) := Lib.hid (by
                rcases HRW.out.2 with h0 | ⟨g, o, h1, h2, h3⟩
                · exact ⟨HRW.out.1, Or.inl h0⟩
                · refine ⟨HRW.out.1, Or.inr ⟨g, o, h1, h2, fun j u hu => (hkw.out.cell (p := ⟨g, o + j, none⟩) (Nat.lt_of_lt_of_le h2 HWC.out) ?_).trans (h3 j u hu)⟩⟩
                  exact HRF.out g o h1)
              clear hc2 hf2 hA2 hcat hev
              have HNA := Lib.hid (names_any cb F2 (es ++ o1) t wr HCL.out (by have := HESL.out; rw [List.length_append, HLN.out]; omega))
              have HNL1 : Hid ((es ++ o1).length ≤ 1000) := Lib.hid (by have := HESL.out; rw [List.length_append, HLN.out]; omega)
              go_wp2_with fail
              refine HNA.out.mono ?_
              rintro e wh ⟨Ah, ch, ks, rfl, hks, hkl, _, hrh, hbh⟩
              have HBh : Hid (Below w.heap.size w wh) := Lib.hid (HBw.out.trans (hbh.mono HBw.out.size))
              have HCh : Hid (CatAt wh cb F2 (es ++ o1)) := Lib.hid (HCL.out.below hbh)
              have HRh : Hid (RowIn wh wC.heap.size 7 A7 m ((wI rs).flatMap itC)) := Lib.hid (HRR.out.below (hbh.mono (Nat.le_trans HWC.out hkw.out.size)))
              have HWh : Hid (wC.heap.size ≤ wh.heap.size) := Lib.hid (Nat.le_trans (Nat.le_trans HWC.out hkw.out.size) hbh.size)
              have hks2 : ks = (wR rs).map (·.name) := by
                have h := hks
                rw [HO.out] at h
                exact wR_ks HM6.out (fun e he => (HES.out e he).2) HNS.out h
              have hkm : ks.length = m := by rw [hks2, List.length_map, wR_len]; exact HM.out
              have HKS := Lib.hid hks2
              have HRN : Hid (RowIn wh wh.heap.size 1 Ah m (ks.map .string)) := Lib.hid (by rw [← hkm]; exact hrh)
              rw [hkm]
              have hmm : ((m : Int) != (m : Int)) = false := by simp
              have HD2 := Lib.hid (diff_any wh cb F2 (es ++ o1) t feedN 1000 wC.heap.size A7 (wI rs) m c7 HCh.out HNL1.out (by decide) HNM1.out HRh.out HWh.out (by omega) (fun x hx => (wI_few HM6.out x hx).sh) (HGL.out.keep HBh.out (Nat.le_refl _)))
              unfold feedN at HD2
              clear hks hkl hrh hbh HNA hks2 hkm HCL HRR
              go_wp2_with fail
              refine HD2.out.mono ?_
              rintro e wy ⟨Ay, cy, o2, rfl, hd2, _, _, _, hby⟩
              have hd2 : IsDiff (es ++ o1) t feedN 1000 (wR rs) o2 := hd2
              rw [HO.out] at hd2
              obtain rfl := lead_none (fun e he => (HES.out e he).2) (wR_ok HM6.out) HNS.out hd2
              have HBy : Hid (Below w.heap.size w wy) := Lib.hid (HBh.out.trans (hby.mono HBh.out.size))
              have HCy : Hid (CatAt wy cb F2 (es ++ o1)) := Lib.hid (HCh.out.below hby)
              have HRy : Hid (RowIn wy wC.heap.size 7 A7 m ((wI rs).flatMap itC)) := Lib.hid (HRh.out.below (hby.mono HWh.out))
              have HRNy : Hid (RowIn wy wh.heap.size 1 Ah m (ks.map .string)) := Lib.hid (HRN.out.below hby)
              have HWy : Hid (wC.heap.size ≤ wy.heap.size ∧ wh.heap.size ≤ wy.heap.size) := Lib.hid ⟨Nat.le_trans HWh.out hby.size, hby.size⟩
              have h00 : ((([] : List Ev).length : Int) != 0) = false := by simp
              clear hd2 hby HD2 HRN HRh HCh
              go_wp2_with fail
              clear hmm h00
              go_loopw [124] (fun i wr => ∃ k : Nat, k ≤ m ∧ i = .int .i64 (k : Nat) ∧ Hid (Below wy.heap.size wy wr)) (fun i _ => m - (intOf i).toNat)
              case atStart => exact ⟨0, Nat.zero_le _, rfl, Lib.hid (Below.refl _ _)⟩
              case round =>
                obtain ⟨k, hk, rfl, hbw⟩ := hrel
                have HBW2 : Hid (Below w.heap.size w wr) := Lib.hid (HBy.out.trans (hbw.out.mono HBy.out.size))
                have HCW : Hid (CatAt wr cb F2 (es ++ o1)) := Lib.hid (HCy.out.below hbw.out)
                by_cases hlt : k < m
                · obtain ⟨y, hy⟩ : ∃ y, (wI rs)[k]? = some y := ⟨(wI rs)[k]'(by rw [HNM1.out]; exact hlt), List.getElem?_eq_getElem _⟩
                  obtain ⟨g, o, rfl, hgB, hcl⟩ := it_at HRy.out (by omega)
                  obtain ⟨gn, on, rfl, hgn, hcn⟩ := RowIn.at HRNy.out (by omega)
                  have hym : y ∈ wI rs := List.mem_of_getElem? hy
                  have hrm : roOf y ∈ wR rs := List.mem_map.2 ⟨y, hym, rfl⟩
                  have hny : y.name.size ≤ 1000000 := by have := (wI_few HM6.out y hym).1; omega
                  have hnk : (ks.map Value.string)[k]? = some (.string y.name) := by
                    rw [HKS.out]
                    unfold wR
                    rw [List.getElem?_map, List.getElem?_map, List.getElem?_map, hy]
                    rfl
                  obtain ⟨x, hx, hxA, hxn⟩ : ∃ x, atP (es ++ o1) y.name t = some x ∧ AsRow x (roOf y) ∧ x.name = y.name := by
                    have hfr := findR_mem ((okL_iff (wR rs)).1 (wR_ok HM6.out)).2.1 hrm
                    rcases lead_at (n := 1) (src := feedN) (fun e he => (HES.out e he).2) (wR_ok HM6.out) HNS.out (roOf y).name with ⟨h1, _⟩ | ⟨r', x, h1, h2, h3, h4⟩
                    · rw [hfr] at h1; cases h1
                    · rw [hfr] at h1
                      cases h1
                      rw [← HO.out] at h2
                      exact ⟨x, h2, h3, h4⟩
                  obtain ⟨wa, hwa⟩ : ∃ wa, wr.alloc (.cells #[.string y.name, .string y.maker, .string y.tags, .int .i64 y.stock, .int .i64 y.price, .int .i64 y.born, .bool y.listed] 47) = wa := ⟨_, rfl⟩
                  obtain ⟨xb, hxb⟩ : ∃ b, wr.heap.size = b := ⟨_, rfl⟩
                  have HXa : Hid (Blk wa xb 47 #[.string y.name, .string y.maker, .string y.tags, .int .i64 y.stock, .int .i64 y.price, .int .i64 y.born, .bool y.listed]) := Lib.hid (by rw [← hwa, ← hxb]; exact Blk.new _ _ _)
                  have HBa : Hid (Below wy.heap.size wy wa) := Lib.hid (by rw [← hwa]; exact hbw.out.alloc hbw.out.size _)
                  have HCa : Hid (CatAt wa cb F2 (es ++ o1)) := Lib.hid (HCy.out.below HBa.out)
                  have HAT : Hid (Calls Tryz.prog 12 #[.pointer (some ⟨cb, 0, none⟩), .string y.name, .int .i64 t] wa fun e w' => e = .returned (.tuple #[.agg #[.string y.name, .string y.maker, .string y.tags, .int .i64 y.stock, .int .i64 y.price, .int .i64 x.born, .bool true], .bool true]) ∧ Below wa.heap.size wa w') := Lib.hid (by
                    have h := at_any cb F2 (es ++ o1) y.name t wa HCa.out hny (Nat.le_trans HNL1.out (by omega))
                    unfold toldP itA at h
                    obtain ⟨a1, a2, a3, a4, a5⟩ := hxA
                    rw [hx, Option.getD_some, hxn, a1, a2, a3, a4, a5] at h
                    exact h)
                  obtain ⟨xq, hxq⟩ : ∃ xq, x.born = xq := ⟨_, rfl⟩
                  rw [hxq] at HAT
                  have HNC : Hid (∀ W, Below wy.heap.size wy W → W.cell? ⟨gn, on + k, none⟩ = some (.string y.name)) := Lib.hid (fun W hW => (hW.cell (p := ⟨gn, on + k, none⟩) (Nat.lt_of_lt_of_le hgn HWy.out.2)).trans (hcn k _ hnk))
                  have hk8 : (k : Int) < (m : Int) := by omega
                  have hk9 : (0 : Int) ≤ (k : Int) := by omega
                  obtain ⟨e0, e1, e2, e3, e4, e5, e6⟩ : wr.cell? ⟨g, o + k * 7, none⟩ = some (.string y.name) ∧ wr.cell? ⟨g, o + k * 7 + 1, none⟩ = some (.string y.maker) ∧ wr.cell? ⟨g, o + k * 7 + 2, none⟩ = some (.string y.tags) ∧ wr.cell? ⟨g, o + k * 7 + 3, none⟩ = some (.int .i64 y.stock) ∧ wr.cell? ⟨g, o + k * 7 + 4, none⟩ = some (.int .i64 y.price) ∧ wr.cell? ⟨g, o + k * 7 + 5, none⟩ = some (.int .i64 y.born) ∧ wr.cell? ⟨g, o + k * 7 + 6, none⟩ = some (.bool y.listed) := by
                    obtain ⟨f0, f1, f2, f3, f4, f5, f6⟩ := hcl k y hy
                    have q : ∀ p v, wy.cell? ⟨g, p, none⟩ = some v → wr.cell? ⟨g, p, none⟩ = some v := fun p v h => (hbw.out.cell (p := ⟨g, p, none⟩) (Nat.lt_of_lt_of_le hgB HWy.out.1)).trans h
                    exact ⟨q _ _ f0, q _ _ f1, q _ _ f2, q _ _ f3, q _ _ f4, q _ _ f5, q _ _ f6⟩
                  clear hcl hcn hy hym hrm hny hnk hx hxA hxn hxq
                  go_upto_region 29 with fail
                  (try simp only [Exit.inBlock, Exit.then])
                  try rw [hwa]
                  try rw [hxb]
                  clear hwa hxb e0 e1 e2 e3 e4 e5 e6
                  have x0 : wa.cell? ⟨xb, 0, none⟩ = some (.string y.name) := HXa.out.cell 0
                  go_wp2_with fail
                  refine HAT.out.mono ?_
                  rintro e w6 ⟨rfl, hb6⟩
                  have HB6 : Hid (Below wy.heap.size wy w6) := Lib.hid (HBa.out.trans (hb6.mono HBa.out.size))
                  have HX6 : Hid (Blk w6 xb 47 #[.string y.name, .string y.maker, .string y.tags, .int .i64 y.stock, .int .i64 y.price, .int .i64 y.born, .bool y.listed]) := Lib.hid ((hb6.block _ HXa.out.lt).trans HXa.out)
                  obtain ⟨w7, hw7⟩ : ∃ w7, w6.alloc (.cells #[.string y.name, .string y.maker, .string y.tags, .int .i64 y.stock, .int .i64 y.price, .int .i64 xq, .bool true] 47) = w7 := ⟨_, rfl⟩
                  have HX7 : Hid (Blk w7 w6.heap.size 47 #[.string y.name, .string y.maker, .string y.tags, .int .i64 y.stock, .int .i64 y.price, .int .i64 xq, .bool true]) := Lib.hid (by rw [← hw7]; exact Blk.new _ _ _)
                  have HY7 : Hid (Blk w7 xb 47 #[.string y.name, .string y.maker, .string y.tags, .int .i64 y.stock, .int .i64 y.price, .int .i64 y.born, .bool y.listed]) := Lib.hid (by rw [← hw7]; exact HX6.out.alloc _)
                  have HB7 : Hid (Below wy.heap.size wy w7) := Lib.hid (by rw [← hw7]; exact HB6.out.alloc HB6.out.size _)
                  have HW7 := Lib.hid hw7
                  clear hb6 HAT x0 hw7
                  go_wp2_with fail
                  try rw [HW7.out]
                  have nk := HNC.out w7 HB7.out
                  have x0 : w7.cell? ⟨xb, 0, none⟩ = some (.string y.name) := HY7.out.cell 0
                  have x1 : w7.cell? ⟨xb, 1, none⟩ = some (.string y.maker) := HY7.out.cell 1
                  have x2 : w7.cell? ⟨xb, 2, none⟩ = some (.string y.tags) := HY7.out.cell 2
                  have x3 : w7.cell? ⟨xb, 3, none⟩ = some (.int .i64 y.stock) := HY7.out.cell 3
                  have x4 : w7.cell? ⟨xb, 4, none⟩ = some (.int .i64 y.price) := HY7.out.cell 4
                  have v1 : w7.cell? ⟨w6.heap.size, 1, none⟩ = some (.string y.maker) := HX7.out.cell 1
                  have v2 : w7.cell? ⟨w6.heap.size, 2, none⟩ = some (.string y.tags) := HX7.out.cell 2
                  have v3 : w7.cell? ⟨w6.heap.size, 3, none⟩ = some (.int .i64 y.stock) := HX7.out.cell 3
                  have v4 : w7.cell? ⟨w6.heap.size, 4, none⟩ = some (.int .i64 y.price) := HX7.out.cell 4
                  have v6 : w7.cell? ⟨w6.heap.size, 6, none⟩ = some (.bool true) := HX7.out.cell 6
                  go_quiet (fail)
                  go_wp2_with fail
                  go_roundw
                  case rel => exact ⟨k + 1, by omega, by go_num, Lib.hid (below_drewN HB7.out _)⟩
                  case measure => simp [intOf]; omega
                · obtain rfl : m = k := by omega
                  have hk8 : ¬ (m : Int) < (m : Int) := by omega
                  have HRr : Hid (RowIn wr wC.heap.size 7 A7 m ((wI rs).flatMap itC)) := Lib.hid (HRy.out.below (hbw.out.mono HWy.out.1))
                  have HPR := Lib.hid (fprint_any wr wC.heap.size A7 (wI rs) m c7 HNM1.out HRr.out (Nat.le_trans HWy.out.1 hbw.out.size) (by omega) (wI_few HM6.out) (HGL.out.keep HBW2.out (Nat.le_refl _)) (HG.out.keep HBW2.out).t)
                  have hrw : (wI rs).map roOf = wR rs := rfl
                  rw [hrw] at HPR
                  have HPF : Hid ((printB (wR rs)).size ≤ 100000) := Lib.hid (print_few (wR_few HM6.out) (by rw [wR_len]; have := HM6.out; omega))
                  have HPP : Hid (parseP (printB (wR rs)) = (wR rs, (wR rs).length, 0)) := Lib.hid (by rw [parse_print, if_pos (wR_ok HM6.out)])
                  have HRLN : Hid ((wR rs).length = m) := Lib.hid (by rw [wR_len]; exact HM.out)
                  clear hrw
                  generalize hrr : wR rs = rr at HPR HPF HPP HRLN
                  clear hrr
                  generalize printB rr = text at *
                  go_wp2_with fail
                  refine HPR.out.mono ?_
                  rintro e wp ⟨rfl, hbp⟩
                  have HBp : Hid (Below w.heap.size w wp) := Lib.hid (HBW2.out.trans (hbp.mono HBW2.out.size))
                  have HQ := Lib.hid (parse_any text wp HPF.out (HGL.out.keep HBp.out (Nat.le_refl _)) (HG.out.keep HBp.out).t (HE.out.keep HBp.out))
                  clear hbp HPR
                  go_wp2_with fail
                  refine HQ.out.mono ?_
                  rintro e wz ⟨Ac, cc, xs, n1, k1, er1, rfl, hn1, hpp, _, _, _, _, hbc⟩
                  have HBz : Hid (Below w.heap.size w wz) := Lib.hid (HBp.out.trans (hbc.mono HBp.out.size))
                  rw [HPP.out] at hpp
                  simp only [Prod.mk.injEq] at hpp
                  obtain ⟨p1, p2, p3⟩ := hpp
                  obtain rfl : m = k1 := by rw [← p2]; exact HRLN.out.symm
                  obtain rfl : m = n1 := by rw [← hn1, ← List.length_map (f := roOf), ← p1]; exact HRLN.out.symm
                  subst p3
                  have hmm : ((m : Int) == (m : Int)) = true := by simp
                  clear hbc HQ p1 p2 hn1
                  go_wp2_with fail
                  go_ret
                  exact ⟨rfl, HBz.out⟩
end Go.Proofs.YtdcinodbgbkobaaGreatDoor

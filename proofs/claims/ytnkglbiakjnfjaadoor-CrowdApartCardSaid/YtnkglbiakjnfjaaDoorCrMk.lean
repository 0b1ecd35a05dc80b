/- The makers whom a person follows, mutes. -/
import Derived.Test.YtnkglbiakjnfjaaDoorCrKeys
namespace Go.Proofs.YtnkglbiakjnfjaaDoor
open Go.Shelf Go.RowKit Go.Maps Go.Lib Go.Sort
set_option linter.unusedVariables false

def stG (S : ByteArray → Bool) : ByteArray → Option Value := fun y => if S y then some (.bool true) else none
theorem stG_upd (S : ByteArray → Bool) (x : ByteArray) : ∀ kl, upd (mapG (stG S)) (.string x.data.toList) (.bool true) kl = mapG (stG (fun y => S y || decide (y = x))) kl := fun kl => by
  rw [mapG_upd]
  have : updG (stG S) x (.bool true) = stG (fun y => S y || decide (y = x)) := by
    funext y
    unfold updG stG
    by_cases h : y = x
    · simp [h]
    · simp [h]
  rw [this]
theorem stG_some (S : ByteArray → Bool) (y : ByteArray) : (stG S y).isSome = S y := by unfold stG; cases S y <;> rfl
def mkS (F : ByteArray → Option Bool) (kd : Int) (l : List Rw) : ByteArray → Bool := fun y => l.any fun r => decide (r.e.kind = kd ∧ F r.e.text = some true ∧ y = r.e.text)
theorem mkS_snoc (F : ByteArray → Option Bool) (kd : Int) (l : List Rw) (r : Rw) : mkS F kd (l ++ [r]) = fun y => mkS F kd l y || decide (r.e.kind = kd ∧ F r.e.text = some true ∧ y = r.e.text) := by
  funext y; unfold mkS; rw [List.any_append]; simp

set_option maxHeartbeats 4000000 in
set_option maxRecDepth 100000 in
theorem makers_any (cb : Nat) (half : Int) (b : Bs) (last : Ev) (G : ByteArray → Option Value) (R : ByteArray → List Rd) (U : Nat → Prop) (rs : List Rw) (p : ByteArray) (kd : Int) (hbk : Nat) (F : ByteArray → ByteArray → Option Bool) (w : World) (h : CrIn w cb b half last G R U rs) (hF : Is2 okBool w hbk rs.length (boolF F)) (hp : p.size ≤ maxLen) (hb : rs.length ≤ 1000) (hwd : ∀ t, F p t = some true → ∃ r ∈ ownC rs p, r.e.kind = kd ∧ r.e.text = t) :
    Calls Tryd.prog 57 #[.pointer (some ⟨cb, 0, none⟩), .string p, .int .i64 kd, .map (some hbk)] w fun e w' => ∃ (A : Option Addr) (c : Nat) (ks : List ByteArray), e = .returned (.slice A ks.length c) ∧ IsNames (fun y => decide (F p y = some true)) ks ∧ w'.ownsRow w.heap.size 9 1 (.slice A ks.length c) ks.length (ks.map .string) ∧ ks.length ≤ 1000 ∧ Below w.heap.size w w' := by
  obtain ⟨A5, c5, hgr, how, hold⟩ := h.ppl.row p
  have HREL := Lib.hid (h.rel p)
  have HSH : Hid (∀ r ∈ ownC rs p, r.e.text.size ≤ maxLen) := Lib.hid (fun r hr => by have := (h.sh r (ownC_mem.1 hr).1).2.2.2; unfold maxLen; omega)
  have hol : (ownC rs p).length ≤ 1000 := Nat.le_trans (ownC_len rs p) hb
  obtain ⟨l, hl⟩ : ∃ l, ownC rs p = l := ⟨_, rfl⟩
  obtain ⟨rl, hrl⟩ : ∃ rl, R p = rl := ⟨_, rfl⟩
  rw [hl] at HREL HSH hol hwd
  rw [hrl] at hgr how hold HREL
  obtain ⟨N, hN⟩ : ∃ N, rl.length = N := ⟨_, rfl⟩
  have HN := Lib.hid hN
  have HNL : Hid (l.length = N) := Lib.hid (by rw [← hN, HREL.out.1])
  rw [HNL.out] at hol
  rw [hN] at hgr how hold
  have HRO := Lib.hid (RowIn.of_own how)
  have HGR := Lib.hid hgr
  have HMP := Lib.hid h.ppl.map
  have HWD := Lib.hid hwd
  have HFM := Lib.hid hF
  obtain ⟨w1, hw1e⟩ : ∃ w1, w.alloc (.map #[] 0) = w1 := ⟨_, rfl⟩
  have HB1 : Hid (Below w.heap.size w w1) := Lib.hid (by rw [← hw1e]; exact (Below.refl _ _).alloc (Nat.le_refl _) _)
  have HM1 : Hid (MapIs Tryd.prog 9 okBool w1 w.heap.size 0 (mapG (stG (mkS (F p) kd (l.take 0))))) := Lib.hid ((by rw [← hw1e]; exact MapIs.made w Tryd.prog 9 okBool : MapIs Tryd.prog 9 okBool w1 w.heap.size 0 (fun _ => none)).congr (fun kl => by cases kl <;> rfl))
  have hmm := @run_makeMap Tryd.prog
  have c10 : w1.cell? ⟨cb, 10, none⟩ = some (.map (some b.pb)) := (h.blk.kept (below_kept (S := fun _ => False) HB1.out (Nat.le_refl _)) (fun h => h)).cell 10
  have HPM1 : Hid (MapIs Tryd.prog 9 okSl w1 b.pb rs.length (mapG G)) := Lib.hid (HMP.out.kept (below_kept (S := fun _ => False) HB1.out (Nat.le_refl _)) (fun h => h))
  have HGV : Hid ((mapG G (.string p.data.toList)).getD (.slice none 0 0) = .slice A5 N c5) := Lib.hid (by rw [mapG_at]; exact HGR.out)
  clear h how hold hgr hl hrl hN hwd hF
  go_enter Tryd.func57, Tryd.ntmps57
  go_wp2_with (first
    | (at_lookup; refine wpList_lookM _ rfl _ _ 75 rfl 9 74 (string_keyed Tryd.underlying9) Tryd.underlying75 okSl _ (zeroDds _) rfl b.pb _ _ rfl HPM1.out _ _ rfl (WideMaps.keyOf_string_mk Tryd.underlying9 hp) _ HGV.out ?_)
    | fail)
  clear hw1e hmm c10
  go_loopw [20] (fun i wr => ∃ k : Nat, k ≤ N ∧ i = .int .i64 k ∧ Hid (MapIs Tryd.prog 9 okBool wr w.heap.size k (mapG (stG (mkS (F p) kd (l.take k))))) ∧ Hid (Below w.heap.size w wr)) (fun i _ => N - (intOf i).toNat)
  case atStart => exact ⟨0, Nat.zero_le _, rfl, HM1, HB1⟩
  case round =>
    clear HM1 HB1 HPM1 HGV
    obtain ⟨k, hk, rfl, hmap, hbw⟩ := hrel
    by_cases hlt : k < N
    · obtain ⟨x, hx⟩ : ∃ x, l[k]? = some x := ⟨l[k]'(by rw [HNL.out]; exact hlt), List.getElem?_eq_getElem _⟩
      obtain ⟨rd, hrd, hdd⟩ := HREL.out.at hx
      obtain ⟨g, o, rfl, hgB, hcl⟩ := rds_at HRO.out (by omega)
      obtain ⟨e0, e1, e2, e3, e4, e5, e6, e7, e8⟩ : RdAt wr g (o + k * 9) rd := (hcl k rd hrd).keep (fun j => hbw.out.cell (p := ⟨g, j, none⟩) hgB)
      have HTK : Hid (mkS (F p) kd (l.take (k + 1)) = fun y => mkS (F p) kd (l.take k) y || decide (rd.e.kind = kd ∧ F p rd.e.text = some true ∧ y = rd.e.text)) := Lib.hid (by rw [take_snoc hx, mkS_snoc, hdd.1])
      have hts : rd.e.text.size ≤ maxLen := by rw [hdd.1]; exact HSH.out x (List.mem_of_getElem? hx)
      have hk8 : (k : Int) < (N : Int) := by omega
      have hk9 : (0 : Int) ≤ (k : Int) := by omega
      have hwz := hbw.out.size
      obtain ⟨w3, hw3⟩ : ∃ w3, wr.alloc (.cells (rdAr rd) 82) = w3 := ⟨_, rfl⟩
      have HBX : Hid (Blk w3 wr.heap.size 82 (rdAr rd)) := Lib.hid (by rw [← hw3]; exact Blk.new _ _ _)
      have HB3 : Hid (Below w.heap.size w w3) := Lib.hid (by rw [← hw3]; exact hbw.out.alloc hwz _)
      have HM3 : Hid (MapIs Tryd.prog 9 okBool w3 w.heap.size k (mapG (stG (mkS (F p) kd (l.take k))))) := Lib.hid (by rw [← hw3]; exact hmap.out.alloc _)
      have d3 : w3.cell? ⟨wr.heap.size, 3, none⟩ = some (.int .i64 rd.e.kind) := HBX.out.cell 3
      have d7 : w3.cell? ⟨wr.heap.size, 7, none⟩ = some (.string rd.e.text) := HBX.out.cell 7
      obtain ⟨M, hM, hf⟩ := HFM.out.kept (below_kept (S := fun _ => False) HB3.out (Nat.le_refl _)) (fun h => h)
      have hlk := hM.look lnkKeyed Tryd.underlying76 (zeroBool _) rfl (lnk_keyOf p rd.e.text hp hts)
      rw [hf p rd.e.text hp hts, boolF_get] at hlk
      have HFV : Hid ((F p rd.e.text).getD false = true ↔ F p rd.e.text = some true) := Lib.hid (by cases F p rd.e.text with | none => simp | some q => cases q <;> simp)
      obtain ⟨fv, hfv⟩ : ∃ fv, (F p rd.e.text).getD false = fv := ⟨_, rfl⟩
      rw [hfv] at hlk HFV
      unfold rdAr at hw3
      clear hcl hx hrd hdd hmap hM hf hfv
      by_cases q1 : rd.e.kind = kd
      rotate_left
      · have HS1 : Hid (mkS (F p) kd (l.take (k + 1)) = mkS (F p) kd (l.take k)) := Lib.hid (by rw [HTK.out]; funext y; simp [q1])
        have s1 := int_f q1
        clear q1 HTK
        go_wp2_with fail
        go_roundw
        case rel => exact ⟨k + 1, by omega, by go_num, Lib.hid (by rw [HS1.out]; exact HM3.out.mono (by omega)), HB3⟩
        case measure => simp [intOf]; omega
      have s1 := int_t q1
      cases fv
      · have HS1 : Hid (mkS (F p) kd (l.take (k + 1)) = mkS (F p) kd (l.take k)) := Lib.hid (by
          rw [HTK.out]; funext y
          have : ¬ (F p rd.e.text = some true) := fun e => by have := HFV.out.2 e; cases this
          simp [this])
        clear q1 HTK HFV
        go_wp2_with fail
        go_roundw
        case rel => exact ⟨k + 1, by omega, by go_num, Lib.hid (by rw [HS1.out]; exact HM3.out.mono (by omega)), HB3⟩
        case measure => simp [intOf]; omega
      · have HS1 : Hid (mkS (F p) kd (l.take (k + 1)) = fun y => mkS (F p) kd (l.take k) y || decide (y = rd.e.text)) := Lib.hid (by
          rw [HTK.out]; funext y
          have : F p rd.e.text = some true := HFV.out.1 rfl
          simp [this, q1])
        clear q1 HTK HFV
        go_wp2_with (first
          | (at_mapUpdate; refine wpList_storeM _ rfl _ _ _ 109 rfl 9 4 (string_keyed Tryd.underlying9) Tryd.underlying109 okBool w.heap.size _ _ rfl HM3.out (by unfold maxLen; omega) _ (.bool true) _ rfl rfl (WideMaps.keyOf_string_mk Tryd.underlying9 hts) rfl ?_; intro w8 hm8 hg8 hs8)
          | fail)
        have HM8 : Hid (MapIs Tryd.prog 9 okBool w8 w.heap.size (k + 1) (mapG (stG (mkS (F p) kd (l.take (k + 1)))))) := Lib.hid (by
          rw [HS1.out]
          exact hm8.congr (fun kl => stG_upd _ _ kl))
        have HB8 : Hid (Below w.heap.size w w8) := Lib.hid (HB3.out.grown hg8 HB3.out.size (fun q hq => by cases hq; exact Nat.le_refl _))
        clear hm8 hg8 hs8
        go_roundw
        case rel => exact ⟨k + 1, by omega, by go_num, HM8, HB8⟩
        case measure => simp [intOf]; omega
    · obtain rfl : N = k := by omega
      have htl : l.take N = l := by rw [← HNL.out, List.take_length]
      rw [htl] at hmap
      have HFI : Hid (∀ y, mkS (F p) kd l y = decide (F p y = some true)) := Lib.hid (fun y => by
        rw [Bool.eq_iff_iff, decide_eq_true_eq]
        unfold mkS
        rw [List.any_eq_true]
        constructor
        · rintro ⟨r, hr, h⟩
          obtain ⟨h1, h2, h3⟩ := of_decide_eq_true h
          rw [h3]; exact h2
        · intro h
          obtain ⟨r, hr, h1, h2⟩ := HWD.out y h
          exact ⟨r, hr, decide_eq_true ⟨h1, by rw [h2]; exact h, h2.symm⟩⟩)
      obtain ⟨D, hD, hview⟩ := hmap.out
      have hsz : Maps.size D ≤ N := hD.size_le
      have HNK := Lib.hid (strKeys_nodup hD Tryd.underlying9)
      have HKEY : Hid (∀ s, Maps.has D (.string s) = decide (F p (toB s) = some true)) := Lib.hid (fun s => by
        rw [← view_some_has hD, hview, ← HFI.out]
        exact stG_some (mkS (F p) kd l) (toB s))
      have HK := Lib.hid (callsIn_wide.1 (Tryd.maps_Keys_70 (some w.heap.size) wr))
      have HS := Lib.hid (callsIn_wide.1 (Tryd.slices_Sorted_keys_55_70 w.heap.size N D (heldElem okBool) wr hD (by unfold maxLen; omega) (by omega)))
      have HKL : Hid ((strKeys D).length ≤ 1000) := Lib.hid (by
        have : (strKeys D).length = Maps.size D := by
          obtain ⟨es, rfl, _⟩ := hD.entries (string_keyed Tryd.underlying9)
          simp [strKeys, Maps.size]
        omega)
      have HWZ : Hid (w.heap.size ≤ wr.heap.size) := Lib.hid hbw.out.size
      clear hD hview hsz htl hmap
      go_wp2_with fail
      refine HK.out.mono ?_
      rintro e w5 ⟨rfl, rfl⟩
      go_wp2_with fail
      refine HS.out.mono ?_
      rintro e w6 ⟨v, ss, rfl, hp6, hrow, _, hb6⟩
      have HP := Lib.hid hp6
      obtain ⟨A2, c2, rfl⟩ := own_shape hrow
      have HR := Lib.hid hrow
      have HB := Lib.hid hb6
      clear hp6 hrow hb6
      go_wp2_with fail
      go_ret
      have hks := ris_of (f := fun y => decide (F p y = some true)) ((HP.out.nodup_iff).2 HNK.out.1) (fun x => by rw [HP.out.mem_iff, HNK.out.2, HKEY.out])
      refine ⟨A2, c2, (ss.mergeSort (fun x y => decide (x ≤ y))).map toB, by simp [List.length_mergeSort], hks, ?_, by simp [List.length_mergeSort]; rw [HP.out.length_eq]; exact HKL.out, (hbw.out.alloc hbw.out.size _).trans (HB.out.mono (by have := HWZ.out; simp; omega))⟩
      rw [List.length_map, List.length_mergeSort, ← enc_toB]
      exact own_mono HR.out (by have := HWZ.out; simp; omega)

theorem word_some {f : Rw → Bool} {a b : Int} {rs : List Rw} (h : wordO f a b rs = some true) : ∃ r ∈ rs, f r = true ∧ r.e.kind = a := by
  revert h
  refine snocInd' (p := fun rs => wordO f a b rs = some true → ∃ r ∈ rs, f r = true ∧ r.e.kind = a) rs (fun h => by cases h) (fun l r ih h => ?_)
  rw [wordO_snoc] at h
  split at h
  · rename_i hc
    rw [Bool.and_eq_true] at hc
    injection h with h
    exact ⟨r, by simp, hc.1, of_decide_eq_true h⟩
  · obtain ⟨x, hx, h1⟩ := ih h
    exact ⟨x, List.mem_append_left _ hx, h1⟩
theorem fol_has {rs : List Rw} {p t : ByteArray} {a b : Int} (h : wordO (isT p t) a b rs = some true) : ∃ r ∈ ownC rs p, r.e.kind = a ∧ r.e.text = t := by
  obtain ⟨r, hr, h1, h2⟩ := word_some h
  unfold isT at h1
  obtain ⟨h3, h4⟩ := of_decide_eq_true h1
  exact ⟨r, ownC_mem.2 ⟨hr, h3⟩, h2, h4⟩

set_option maxHeartbeats 1000000 in
set_option maxRecDepth 100000 in
theorem follows_any (cb : Nat) (half : Int) (U : Nat → Prop) (rs : List Rw) (p : ByteArray) (w : World) (h : CrAt w cb half U rs) (hp : p.size ≤ maxLen) (hb : rs.length ≤ 1000) :
    Calls Tryd.prog 34 #[.pointer (some ⟨cb, 0, none⟩), .string p] w fun e w' => ∃ (A : Option Addr) (c : Nat) (ks : List ByteArray), e = .returned (.slice A ks.length c) ∧ IsNames (fun y => decide (folO rs p y = some true)) ks ∧ w'.ownsRow w.heap.size 9 1 (.slice A ks.length c) ks.length (ks.map .string) ∧ ks.length ≤ 1000 ∧ Below w.heap.size w w' := by
  obtain ⟨b, last, G, R, h⟩ := h
  have hc : w.cell? ⟨cb, 14, none⟩ = some (.map (some b.fb)) := h.blk.cell 14
  have HM := Lib.hid (makers_any cb half b last G R U rs p 7 b.fb (folO rs) w h h.maps.fol hp hb (fun t ht => fol_has ht))
  clear h
  go_enter Tryd.func34, Tryd.ntmps34
  go_wp2_with fail
  refine HM.out.mono ?_
  rintro e w1 ⟨A, c, ks, rfl, h1, h2, h3, h4⟩
  have H := Lib.hid (And.intro h1 (And.intro h2 (And.intro h3 h4)))
  clear h1 h2 h3 h4
  go_wp2_with fail
  go_ret
  exact ⟨A, c, ks, rfl, H.out⟩
set_option maxHeartbeats 1000000 in
set_option maxRecDepth 100000 in
theorem mutes_any (cb : Nat) (half : Int) (U : Nat → Prop) (rs : List Rw) (p : ByteArray) (w : World) (h : CrAt w cb half U rs) (hp : p.size ≤ maxLen) (hb : rs.length ≤ 1000) :
    Calls Tryd.prog 36 #[.pointer (some ⟨cb, 0, none⟩), .string p] w fun e w' => ∃ (A : Option Addr) (c : Nat) (ks : List ByteArray), e = .returned (.slice A ks.length c) ∧ IsNames (fun y => decide (mutO rs p y = some true)) ks ∧ w'.ownsRow w.heap.size 9 1 (.slice A ks.length c) ks.length (ks.map .string) ∧ ks.length ≤ 1000 ∧ Below w.heap.size w w' := by
  obtain ⟨b, last, G, R, h⟩ := h
  have hc : w.cell? ⟨cb, 15, none⟩ = some (.map (some b.mb)) := h.blk.cell 15
  have HM := Lib.hid (makers_any cb half b last G R U rs p 9 b.mb (mutO rs) w h h.maps.mtd hp hb (fun t ht => fol_has ht))
  clear h
  go_enter Tryd.func36, Tryd.ntmps36
  go_wp2_with fail
  refine HM.out.mono ?_
  rintro e w1 ⟨A, c, ks, rfl, h1, h2, h3, h4⟩
  have H := Lib.hid (And.intro h1 (And.intro h2 (And.intro h3 h4)))
  clear h1 h2 h3 h4
  go_wp2_with fail
  go_ret
  exact ⟨A, c, ks, rfl, H.out⟩

end Go.Proofs.YtnkglbiakjnfjaaDoor

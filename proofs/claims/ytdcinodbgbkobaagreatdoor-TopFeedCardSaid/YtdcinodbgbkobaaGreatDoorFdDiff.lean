/- feed.Diff. -/
import Derived.Test.YtdcinodbgbkobaaGreatDoorFdNames
import Derived.Test.YtdcinodbgbkobaaGreatDoorFdTell
import Derived.Test.YtdcinodbgbkobaaGreatDoorCatApply
namespace Go.Proofs.YtdcinodbgbkobaaGreatDoor
open Go.Shelf Go.RowKit Go.Maps
set_option linter.unusedVariables false

theorem findR_map (l : List It) (n : ByteArray) : findR (l.map roOf) n = (findI l n).map roOf := by
  unfold findR findI
  rw [List.find?_map]
  rfl
theorem len_raw (es : List Ev) (t : Int) (src : ByteArray) (l : List Ro) (ns : List ByteArray) : (rawD es t src l ns).length ≤ 2 * ns.length := by
  unfold rawD
  induction ns with
  | nil => simp
  | cons n ns ih =>
    rw [List.flatMap_cons, List.length_append, List.length_map, List.length_cons]
    have : (tellsOf es t l n).length ≤ 2 := by
      unfold tellsOf tell1
      split
      · simp
      · rw [List.length_append]
        split <;> split <;> simp
    omega
theorem tell1_some (x y : It) : tell1 x (some (roOf y)) = (if x.listed = true ∧ x.maker = y.maker ∧ x.tags = y.tags ∧ x.price = y.price then [] else [(11, y.price, y.maker ++ ⟨#[59]⟩ ++ y.tags)]) ++ (if x.stock = y.stock then [] else [(12, y.stock, ⟨#[]⟩)]) := rfl
theorem raw_num {es : List Ev} {t : Int} {src : ByteArray} {l : List Ro} {ns : List ByteArray} : ∀ e ∈ rawD es t src l ns, e.num = 0 := by
  intro e he
  unfold rawD at he
  obtain ⟨n, _, hn⟩ := List.mem_flatMap.1 he
  obtain ⟨p, _, rfl⟩ := List.mem_map.1 hn
  rfl

theorem own_lo {w : World} {base e size n c : Nat} {A : Option Addr} {xs : List Value} (h : w.ownsRow base e size (.slice A n c) n xs) : ∀ ad, A = some ad → base ≤ ad.block := by
  intro ad hA
  subst hA
  rcases h.2 with ⟨h1, _⟩ | ⟨g, cap, cur, h1, h2, _⟩
  · injection h1 with h1
    cases h1
  · injection h1 with h1
    injection h1 with h1
    subst h1
    exact h2
set_option maxHeartbeats 8000000 in
set_option maxRecDepth 100000 in
theorem diff_any (w : World) (cb : Nat) (F : Nat → Prop) (es : List Ev) (t : Int) (src : ByteArray) (num : Int) (B : Nat) (A : Option Addr) (l : List It) (n c : Nat) (hcat : CatAt w cb F es) (hes : es.length ≤ 1000) (hsrc : src.size ≤ 1000000) (hn : l.length = n) (hl : RowIn w B 7 A n (l.flatMap itC)) (hB : B ≤ w.heap.size) (hb : n ≤ 1000) (hsz : ∀ x ∈ l, ItSh x) (hg : GlobAt w) :
    Calls Tryz.prog 10 #[.pointer (some ⟨cb, 0, none⟩), .int .i64 t, .string src, .int .i64 num, .slice A n c] w fun e w' => ∃ (A' : Option Addr) (c' : Nat) (out : List Ev), e = .returned (.slice A' out.length c') ∧ IsDiff es t src num (l.map roOf) out ∧ out.length ≤ 4000 ∧ EvsAt w' w'.heap.size A' out ∧ ((A' = none → c' = 0) ∧ ∀ ad, A' = some ad → w.heap.size ≤ ad.block) ∧ Below w.heap.size w w' := by
  obtain ⟨w1, hw1⟩ : ∃ w1, w.alloc (.cells #[.int .i64 t] 3) = w1 := ⟨_, rfl⟩
  obtain ⟨w2, hw2⟩ : ∃ w2, w1.alloc (.cells #[.string src] 9) = w2 := ⟨_, rfl⟩
  have hz1 : w1.heap.size = w.heap.size + 1 := by rw [← hw1]; simp
  have hz2 : w2.heap.size = w.heap.size + 2 := by rw [← hw2, ← hw1]; simp
  have HB2 : Hid (Below w.heap.size w w2) := Lib.hid (by rw [← hw2, ← hw1]; exact ((Below.refl _ _).alloc (Nat.le_refl _) _).alloc (by simp) _)
  have HT2 : Hid (Blk w2 w.heap.size 3 #[.int .i64 t]) := Lib.hid (by rw [← hw2, ← hw1]; exact (Blk.new _ _ _).alloc _)
  have HS2 : Hid (Blk w2 w1.heap.size 9 #[.string src]) := Lib.hid (by rw [← hw2]; exact Blk.new _ _ _)
  have HZ1 := Lib.hid hz1
  have HZ2 := Lib.hid hz2
  have HCT := Lib.hid hcat
  have HN := Lib.hid hn
  have HG := Lib.hid hg
  have HRW := Lib.hid (rows_any w2 B A l n c hn (hl.below (HB2.out.mono hB)) (by omega) hb hsz (hg.keep HB2.out (Nat.le_refl _)))
  have HSZ := Lib.hid hsz
  clear hcat hn hg hl hz1 hz2 hsz
  go_enter Tryz.func10, Tryz.ntmps10
  go_wp2_with fail
  clear hw1 hw2
  refine HRW.out.mono ?_
  rintro e w3 ⟨v, rfl, hpost, hb3⟩
  have HPOST := Lib.hid hpost
  have HB3 : Hid (Below w.heap.size w w3) := Lib.hid (HB2.out.trans (hb3.mono HB2.out.size))
  have HT3 : Hid (Blk w3 w.heap.size 3 #[.int .i64 t]) := Lib.hid (HT2.out.kept (below_kept (S := fun _ => False) hb3 (Nat.le_refl _)) (fun h => h))
  have HS3 : Hid (Blk w3 w1.heap.size 9 #[.string src]) := Lib.hid (HS2.out.kept (below_kept (S := fun _ => False) hb3 (Nat.le_refl _)) (fun h => h))
  have HZ3 : Hid (w2.heap.size ≤ w3.heap.size) := Lib.hid hb3.size
  have t0 : w3.cell? ⟨w.heap.size, 0, none⟩ = some (.int .i64 t) := HT3.out.cell 0
  have s0 : w3.cell? ⟨w1.heap.size, 0, none⟩ = some (.string src) := HS3.out.cell 0
  clear hpost hb3 HRW
  have HNS := Lib.hid (name_any src w3 (by unfold maxLen; omega))
  have nope : ∀ q : Bool, q = false → goesD (l.map roOf) src t num = q → IsDiff es t src num (l.map roOf) [] := fun q h1 h2 => ⟨fun _ => rfl, fun h => by rw [h2, h1] at h; cases h⟩
  have HNO : Hid (goesD (l.map roOf) src t num = false → ∃ (A' : Option Addr) (c' : Nat) (out : List Ev), Ending.returned (.slice none 0 0) = .returned (.slice A' out.length c') ∧ IsDiff es t src num (l.map roOf) out ∧ out.length ≤ 4000 ∧ EvsAt w3 w3.heap.size A' out ∧ ((A' = none → c' = 0) ∧ ∀ ad, A' = some ad → w.heap.size ≤ ad.block) ∧ Below w.heap.size w w3) := Lib.hid (fun h => ⟨none, 0, [], rfl, nope _ rfl h, by simp, RowIn.nil _ _ _ _, ⟨fun _ => rfl, fun ad h => by cases h⟩, HB3.out⟩)
  clear nope
  cases q0 : okI l
  · have HG0 : Hid (goesD (l.map roOf) src t num = false) := Lib.hid (by unfold goesD; unfold okI at q0; rw [q0]; rfl)
    clear q0
    go_wp2_with fail
    go_ret
    exact HNO.out HG0.out
  have HQ0 := Lib.hid q0
  clear q0
  go_wp2_with fail
  refine HNS.out.mono ?_
  rintro e w4 ⟨rfl, rfl⟩
  clear HNS
  cases q1 : nameB src
  · have HG0 : Hid (goesD (l.map roOf) src t num = false) := Lib.hid (by unfold goesD; rw [q1]; simp)
    clear q1
    go_wp2_with fail
    go_ret
    exact HNO.out HG0.out
  have HQ1 := Lib.hid q1
  clear q1
  by_cases q2 : t < 0
  · have HG0 : Hid (goesD (l.map roOf) src t num = false) := Lib.hid (by unfold goesD; rw [decide_eq_false (show ¬ 0 ≤ t from by omega)]; simp)
    go_wp2_with fail
    go_ret
    exact HNO.out HG0.out
  have d2 : decide (t < 0) = false := decide_eq_false q2
  by_cases q3 : 1099511627776 < t
  · have HG0 : Hid (goesD (l.map roOf) src t num = false) := Lib.hid (by unfold goesD; rw [decide_eq_false (show ¬ t ≤ 1099511627776 from by omega)]; simp)
    go_wp2_with fail
    go_ret
    exact HNO.out HG0.out
  have d3 : decide (1099511627776 < t) = false := decide_eq_false q3
  by_cases q4 : num < 1
  · have HG0 : Hid (goesD (l.map roOf) src t num = false) := Lib.hid (by unfold goesD; rw [decide_eq_false (show ¬ 1 ≤ num from by omega)]; simp)
    go_wp2_with fail
    go_ret
    exact HNO.out HG0.out
  have d4 : decide (num < 1) = false := decide_eq_false q4
  have HGO : Hid (goesD (l.map roOf) src t num = true) := Lib.hid (by
    have h0 := HQ0.out
    unfold okI at h0
    unfold goesD
    rw [h0, HQ1.out, decide_eq_true (show 0 ≤ t from by omega), decide_eq_true (show t ≤ 1099511627776 from by omega), decide_eq_true (show 1 ≤ num from by omega)]
    rfl)
  obtain ⟨mb, rfl, hmb, hmap⟩ := HPOST.out HQ0.out
  have HMB := Lib.hid hmb
  have HMP := Lib.hid hmap
  clear HNO hmb hmap HPOST
  obtain ⟨lb, hlb⟩ : ∃ lb, w3.heap.size = lb := ⟨_, rfl⟩
  obtain ⟨w4, hw4⟩ : ∃ w4, w3.alloc (.cells #[.slice none 0 0] 23) = w4 := ⟨_, rfl⟩
  have HL4 : Hid (Blk w4 lb 23 #[.slice none 0 0]) := Lib.hid (by rw [← hw4, ← hlb]; exact Blk.new _ _ _)
  have HB34 : Hid (Below w3.heap.size w3 w4) := Lib.hid (by rw [← hw4]; exact (Below.refl _ _).alloc (Nat.le_refl _) _)
  have HB4 : Hid (Below w.heap.size w w4) := Lib.hid (HB3.out.trans (HB34.out.mono HB3.out.size))
  have HLB := Lib.hid hlb
  have t4 : w4.cell? ⟨w.heap.size, 0, none⟩ = some (.int .i64 t) := (HB34.out.cell (p := ⟨w.heap.size, 0, none⟩) HT3.out.lt).trans t0
  have HNM := Lib.hid (names_any cb F es t w4 (HCT.out.below HB4.out) (by omega))
  have hmf : ∀ (fn : Fn) (first cap : Array Value) (w : World), (Instr.makeFunc fn first cap).run Tryz.prog w = .ok (.func fn first cap) w := fun _ _ _ _ => rfl
  go_wp2_with fail
  clear hw4 hlb
  refine HNM.out.mono ?_
  rintro e w5 ⟨A5, c5, k5, rfl, hi5, hl5, hc5, hr5, hb5⟩
  have HB45 := Lib.hid hb5
  have HB5 : Hid (Below w.heap.size w w5) := Lib.hid (HB4.out.trans (hb5.mono HB4.out.size))
  have HI5 := Lib.hid hi5
  have HR5 := Lib.hid hr5
  have HC5 := Lib.hid hc5
  have HM5 : Hid (MapIs Tryz.prog 9 okIt w5 mb n (mapG (rowsG l))) := Lib.hid ((HMP.out.kept (below_kept (S := fun _ => False) HB34.out (Nat.le_refl _)) (fun h => h)).kept (below_kept (S := fun _ => False) hb5 (Nat.le_refl _)) (fun h => h))
  have HKY := Lib.hid (keysIt_any mb w5)
  clear hi5 hr5 hb5 hc5 HNM t4
  obtain ⟨n5, hn5⟩ : ∃ n5, k5.length = n5 := ⟨_, rfl⟩
  rw [hn5] at hl5 HR5 ⊢
  have HN5 := Lib.hid hn5
  clear hn5
  go_wp2_with fail
  refine HKY.out.mono ?_
  rintro e w6 ⟨rfl, hw6⟩
  have HB56 : Hid (Below w5.heap.size w5 w6) := Lib.hid (by rw [hw6]; exact (Below.refl _ _).alloc (Nat.le_refl _) _)
  have HCO := Lib.hid (collect_any mb n (rowsG l) w5 HM5.out hb)
  rw [← hw6] at HCO
  clear hw6 HKY
  go_wp2_with fail
  refine HCO.out.mono ?_
  rintro e w7 ⟨A7, c7, k7, rfl, hi7, hl7, hc7, hr7, hb7⟩
  have HB57 : Hid (Below w5.heap.size w5 w7) := Lib.hid hb7
  have HB7 : Hid (Below w.heap.size w w7) := Lib.hid (HB5.out.trans (hb7.mono HB5.out.size))
  have HI7 := Lib.hid hi7
  have HR7 := Lib.hid hr7
  have HC7 := Lib.hid hc7
  obtain ⟨n7, hn7⟩ : ∃ n7, k7.length = n7 := ⟨_, rfl⟩
  rw [hn7] at hl7 HR7 ⊢
  have HN7 := Lib.hid hn7
  obtain ⟨w8, hw8⟩ : ∃ w8, w7.alloc (.cells #[.slice A5 n5 c5, .slice A7 n7 c7] 44) = w8 := ⟨_, rfl⟩
  have HK8 : Hid (Blk w8 w7.heap.size 44 #[.slice A5 n5 c5, .slice A7 n7 c7]) := Lib.hid (by rw [← hw8]; exact Blk.new _ _ _)
  have HB78 : Hid (Below w7.heap.size w7 w8) := Lib.hid (by rw [← hw8]; exact (Below.refl _ _).alloc (Nat.le_refl _) _)
  have HCC := Lib.hid (concat_any w8 w7.heap.size A5 A7 k5 k7 n5 n7 c5 c7 (HK8.out.cell 0) (HK8.out.cell 1) HN5.out HN7.out (((HR5.out.below HB57.out).more HB57.out.size |>.below HB78.out).more HB78.out.size) ((HR7.out.below HB78.out).more HB78.out.size) HC5.out HC7.out (by omega) (by omega))
  clear hi7 hr7 hb7 hc7 hn7 HCO
  go_wp2_with fail
  clear hw8
  refine HCC.out.mono ?_
  rintro e w10 ⟨A10, c10, rfl, ho10, hb10⟩
  have HB8 : Hid (Below w.heap.size w w8) := Lib.hid (HB7.out.trans (HB78.out.mono HB7.out.size))
  have HB810 := Lib.hid hb10
  have HO10 := Lib.hid (OwnC.of_own (by rw [List.length_append, HN5.out, HN7.out]) ho10)
  have HSO := Lib.hid (sortc_any w10 w8.heap.size A10 (k5 ++ k7) (n5 + n7) c10 HO10.out (by omega))
  clear ho10 hb10 HCC
  go_wp2_with fail
  refine HSO.out.mono ?_
  rintro e w11 ⟨rfl, ho11, hb11⟩
  have HB811 : Hid (Below w8.heap.size w8 w11) := Lib.hid (HB810.out.trans hb11)
  have HCP := Lib.hid (compactc_any w11 w8.heap.size A10 (sortN (k5 ++ k7)) (n5 + n7) c10 ho11 (by omega))
  clear ho11 hb11 HSO
  go_wp2_with fail
  refine HCP.out.mono ?_
  rintro e wB ⟨rfl, hr12, hb12⟩
  have HB8B : Hid (Below w8.heap.size w8 wB) := Lib.hid (HB811.out.trans hb12)
  have HBB : Hid (Below w.heap.size w wB) := Lib.hid (HB8.out.trans (HB8B.out.mono HB8.out.size))
  obtain ⟨ns, hns⟩ : ∃ ns, compN (sortN (k5 ++ k7)) = ns := ⟨_, rfl⟩
  rw [hns] at hr12 ⊢
  have HND : Hid (NamesD es t (l.map roOf) ns) := Lib.hid (by
    rw [← hns]
    refine compN_is _ _ (fun y => ?_)
    rw [List.mem_append, HI5.out.2, HI7.out, findR_map, Bool.or_eq_true]
    unfold rowsG
    rw [Option.isSome_map, Option.isSome_map])
  obtain ⟨nn, hnn⟩ : ∃ nn, ns.length = nn := ⟨_, rfl⟩
  have hnn2 : nn ≤ 2000 := by
    rw [← hnn, ← hns]
    refine Nat.le_trans (compN_len _) ?_
    rw [sortN_len, List.length_append, HN5.out, HN7.out]
    omega
  rw [hnn] at hr12 ⊢
  have HNN := Lib.hid hnn
  obtain ⟨base, hbase⟩ : ∃ base, wB.heap.size = base := ⟨_, rfl⟩
  have HR12 : Hid (RowIn wB base 1 A10 nn (ns.map .string)) := Lib.hid (by rw [← hbase]; exact hr12)
  have HBS := Lib.hid hbase
  have HWB : Hid (w.heap.size ≤ base) := Lib.hid (by rw [← hbase]; exact HBB.out.size)
  have HL8 : Hid (lb < w8.heap.size) := Lib.hid (by
    have h2 := HB78.out.size
    have h3 := HB57.out.size
    have h4 := HB45.out.size
    have h5 := HL4.out.lt
    omega)
  have HAG : Hid (nn = 0 ∨ ∃ g, A10 = some ⟨g, 0, none⟩ ∧ lb < g) := Lib.hid (by
    rcases HO10.out with ⟨h, _⟩ | ⟨g, hA, hg, _⟩
    · left
      have h1 := compN_len (sortN (k5 ++ k7))
      rw [hns, hnn, sortN_len, List.length_append, HN5.out, HN7.out] at h1
      omega
    · exact Or.inr ⟨g, hA, by have := HL8.out; omega⟩)
  have hlbb : Hid (lb < base) := Lib.hid (by
    have h1 := HB8B.out.size
    have h2 := HB78.out.size
    have h3 := HB57.out.size
    have h4 := HB45.out.size
    have h5 := HL4.out.lt
    omega)
  have H4B : Hid (Below w4.heap.size w4 wB) := Lib.hid (HB45.out.trans ((HB57.out.trans ((HB78.out.trans (HB8B.out.mono HB78.out.size)).mono HB57.out.size)).mono HB45.out.size))
  have HTI : Hid (TellIn wB base lb (rawD es t src (l.map roOf) (ns.take 0))) := Lib.hid ⟨none, 0, HL4.out.kept (below_kept (S := fun _ => False) H4B.out (Nat.le_refl _)) (fun h => h), World.ownsRow_nil _ _ _ _⟩
  have HKB : Hid (Kept (fun q => q = lb ∨ base ≤ q) wB wB) := Lib.hid (Kept.refl _ _)
  -- what holds of a world of the loop
  have HWW : Hid (∀ W, Kept (fun q => q = lb ∨ base ≤ q) wB W → Below w.heap.size w W ∧ (W.cell? ⟨w1.heap.size, 0, none⟩ = some (.string src) ∧ W.cell? ⟨w.heap.size, 0, none⟩ = some (.int .i64 t)) ∧ RowIn W base 1 A10 nn (ns.map .string) ∧ MapIs Tryz.prog 9 okIt W mb n (mapG (rowsG l))) := Lib.hid (fun W hW => by
    have h1 := HB3.out.size
    have h2 := HZ1.out
    have h3 := HZ2.out
    have h4 := HZ3.out
    have h5 := HLB.out
    have h6 := hlbb.out
    have h7 := HMB.out
    have h8 := HMP.out.lt
    have h9 := HB34.out.size
    have k3 : Below w3.heap.size w3 W := by
      refine (HB34.out.trans (H4B.out.mono h9)).trans ?_
      exact hW.toBelow (fun i hi => by rcases hi with rfl | hi <;> omega) (by have := HBS.out; omega)
    refine ⟨HB3.out.trans (k3.mono h1), ⟨(k3.cell (p := ⟨w1.heap.size, 0, none⟩) (by show w1.heap.size < _; omega)).trans s0, (k3.cell (p := ⟨w.heap.size, 0, none⟩) (by show w.heap.size < _; omega)).trans t0⟩, ?_, HMP.out.kept (below_kept (S := fun _ => False) k3 (Nat.le_refl _)) (fun h => h)⟩
    refine ⟨HR12.out.1, ?_⟩
    rcases HR12.out.2 with h | ⟨b, off, hA, hb, hc⟩
    · exact Or.inl h
    · refine Or.inr ⟨b, off, hA, hb, fun j u hu => (hW.cell (p := ⟨b, off + j, none⟩) (by show b < _; have := HBS.out; omega) (fun h => ?_)).trans (hc j u hu)⟩
      rcases HAG.out with h0 | ⟨g, hA2, hg⟩
      · have hl0 := HR12.out.1
        rw [h0] at hl0
        have := (List.getElem?_eq_some_iff.1 hu).1
        omega
      · rw [hA] at hA2
        injection hA2 with hA2
        injection hA2 with hA2
        have h : b = lb ∨ base ≤ b := h
        omega)
  have HNMS : Hid (∀ y ∈ ns, y.size ≤ 1000000) := Lib.hid (fun y hy => by
    have h1 := (HND.out.2 y).1 hy
    rcases (Bool.or_eq_true _ _).mp h1 with h | h
    · unfold whB at h
      cases ha : atP es y t with
      | none => rw [ha] at h; cases h
      | some z =>
        have hr : rowOf es y ≠ [] := fun e => by unfold atP at ha; rw [e] at ha; cases ha
        obtain ⟨e, he, rfl⟩ := row_ne hr
        exact (HCT.out.sh e he).2.2.1
    · rw [findR_map, Option.isSome_map] at h
      obtain ⟨z, hz⟩ := Option.isSome_iff_exists.1 h
      unfold findI at hz
      have h2 := List.find?_some hz
      obtain rfl : z.name = y := by simpa using h2
      exact (HSZ.out z (List.mem_of_find?_eq_some hz)).1)
  clear hr12 hb12 hns hnn hbase HCP HL8 HAG HR12 HO10 HB810 HB811 HB78 HB57 HB56 HB45 HB34 HI5 HI7 HR5 HR7 HC5 HC7 HM5 HN5 HN7 HK8 HL4 H4B HB4 HB5 HB7 HB8 HB8B HMP HMB t0 s0 HT3 HS3 HZ3 HT2 HS2 HB2
  go_wp2_with fail
  go_loopw [61] (fun i wr => ∃ k : Nat, k ≤ nn ∧ i = .int .i64 k ∧ Hid (TellIn wr base lb (rawD es t src (l.map roOf) (ns.take k))) ∧ Hid (Kept (fun q => q = lb ∨ base ≤ q) wB wr)) (fun i _ => nn - (intOf i).toNat)
  case atStart => exact ⟨0, Nat.zero_le _, rfl, HTI, HKB⟩
  case round =>
    clear HTI HKB
    obtain ⟨k, hk, rfl, hti, hkw⟩ := hrel
    have hwz := hkw.out.size
    obtain ⟨hW1, hW2, hW3, hW4⟩ := HWW.out wr hkw.out
    by_cases hlt : k < nn
    · obtain ⟨nm, hnm⟩ : ∃ nm, ns[k]? = some nm := ⟨ns[k]'(by rw [HNN.out]; exact hlt), List.getElem?_eq_getElem _⟩
      obtain ⟨g, o, hA, _, hc⟩ := hW3.at (by omega)
      subst hA
      have e0 : wr.cell? ⟨g, o + k, none⟩ = some (.string nm) := hc k _ (by simp [hnm])
      have hns := HNMS.out nm (List.mem_of_getElem? hnm)
      have hnx : nm.size ≤ maxLen := by unfold maxLen; omega
      obtain ⟨LX, hLX⟩ : ∃ LX, rawD es t src (l.map roOf) (ns.take k) = LX := ⟨_, rfl⟩
      have HRD : Hid (rawD es t src (l.map roOf) (ns.take (k + 1)) = LX ++ (tellsOf es t (l.map roOf) nm).map (mkE src 0 t nm)) := Lib.hid (by
        rw [List.take_add_one, hnm, ← hLX, ← rawD_snoc]; rfl)
      have HLX : Hid (LX.length ≤ 4000) := Lib.hid (by
        rw [← hLX]
        refine Nat.le_trans (len_raw _ _ _ _ _) ?_
        rw [List.length_take, HNN.out]
        omega)
      rw [hLX] at hti
      obtain ⟨x, hxx⟩ : ∃ x, (atP es nm t).getD it0 = x := ⟨_, rfl⟩
      obtain ⟨bx, hbx⟩ : ∃ bx, (atP es nm t).isSome = bx := ⟨_, rfl⟩
      have HXX := Lib.hid hxx
      have HBX := Lib.hid hbx
      have HMR := Lib.hid hW4
      have hk8 : (k : Int) < (nn : Int) := by omega
      have hk9 : (0 : Int) ≤ (k : Int) := by omega
      clear hnm hc hLX hxx hbx hW1 hW2 hW3 hW4
      cases hf : findI l nm with
      | none =>
        have HTS : Hid (tellsOf es t (l.map roOf) nm = [(13, 0, ⟨#[]⟩)]) := Lib.hid (by unfold tellsOf; rw [findR_map, hf]; rfl)
        have HLG : Hid ((mapG (rowsG l) (.string nm.data.toList)).getD (itA it0) = .agg #[.string ⟨#[]⟩, .string ⟨#[]⟩, .string ⟨#[]⟩, .int .i64 0, .int .i64 0, .int .i64 0, .bool false]) := Lib.hid (by rw [mapG_at]; unfold rowsG; rw [hf]; rfl)
        have HLI : Hid ((mapG (rowsG l) (.string nm.data.toList)).isSome = false) := Lib.hid (by rw [mapG_at]; unfold rowsG; rw [hf]; rfl)
        obtain ⟨w5, hw5⟩ : ∃ w5, wr.alloc (.cells #[.string ⟨#[]⟩, .string ⟨#[]⟩, .string ⟨#[]⟩, .int .i64 0, .int .i64 0, .int .i64 0, .bool false] 47) = w5 := ⟨_, rfl⟩
        have HW5 := Lib.hid hw5
        have HK5 : Hid (Kept (fun q => q = lb ∨ base ≤ q) wB w5) := Lib.hid (by rw [← hw5]; exact hkw.out.alloc _)
        have HT5 : Hid (TellIn w5 base lb LX) := Lib.hid (hti.out.below (by rw [← hw5]; exact (Below.refl _ _).alloc (Nat.le_refl _) _))
        have HTL1 := Lib.hid (tell_any w5 base w1.heap.size w.heap.size lb src t LX nm 13 0 ⟨#[]⟩ (HWW.out w5 HK5.out).2.1.1 (HWW.out w5 HK5.out).2.1.2 HT5.out (by have := HK5.out.size; have := HBS.out; omega) (by have := HLX.out; omega))
        clear hf hw5
        go_wp2_with (first
          | (at_lookup; refine wpList_look_okM _ rfl _ _ 75 rfl 9 47 (string_keyed Tryz.underlying9) Tryz.underlying75 okIt _ (zeroIt _) zeroIt_ok mb _ _ rfl HMR.out _ _ rfl (WideMaps.keyOf_string_mk Tryz.underlying9 hnx) _ HLG.out _ HLI.out ?_))
        rw [HW5.out]
        refine HTL1.out.mono ?_
        rintro e w9 ⟨rfl, ht9, hk9'⟩
        have HTE : Hid (TellIn w9 base lb (rawD es t src (l.map roOf) (ns.take (k + 1)))) := Lib.hid (by rw [HRD.out, HTS.out]; exact ht9)
        have HKE : Hid (Kept (fun q => q = lb ∨ base ≤ q) wB w9) := Lib.hid (HK5.out.trans' hk9' (fun i _ hS => hS.imp id (fun h => (TellOwn.of HT5.out (Below.refl _ _) h).1)))
        clear ht9 hk9' HTL1
        go_wp2_with fail
        go_roundw
        case rel => exact ⟨k + 1, by omega, by go_num, HTE, HKE⟩
        case measure => simp [intOf]; omega
      | some y =>
        have HYR : Hid (tellsOf es t (l.map roOf) nm = tell1 x (some (roOf y))) := Lib.hid (by unfold tellsOf; rw [findR_map, hf, HXX.out]; rfl)
        have HLG : Hid ((mapG (rowsG l) (.string nm.data.toList)).getD (itA it0) = .agg #[.string y.name, .string y.maker, .string y.tags, .int .i64 y.stock, .int .i64 y.price, .int .i64 y.born, .bool y.listed]) := Lib.hid (by rw [mapG_at]; unfold rowsG; rw [hf]; rfl)
        have HLI : Hid ((mapG (rowsG l) (.string nm.data.toList)).isSome = true) := Lib.hid (by rw [mapG_at]; unfold rowsG; rw [hf]; rfl)
        obtain ⟨w5, hw5⟩ : ∃ w5, wr.alloc (.cells #[.string y.name, .string y.maker, .string y.tags, .int .i64 y.stock, .int .i64 y.price, .int .i64 y.born, .bool y.listed] 47) = w5 := ⟨_, rfl⟩
        have HY5 : Hid (Blk w5 wr.heap.size 47 #[.string y.name, .string y.maker, .string y.tags, .int .i64 y.stock, .int .i64 y.price, .int .i64 y.born, .bool y.listed]) := Lib.hid (by rw [← hw5]; exact Blk.new _ _ _)
        have HBr5 : Hid (Below wr.heap.size wr w5) := Lib.hid (by rw [← hw5]; exact (Below.refl _ _).alloc (Nat.le_refl _) _)
        have HK5 : Hid (Kept (fun q => q = lb ∨ base ≤ q) wB w5) := Lib.hid (by rw [← hw5]; exact hkw.out.alloc _)
        have HAT : Hid (Calls Tryz.prog 12 #[.pointer (some ⟨cb, 0, none⟩), .string nm, .int .i64 t] w5 fun e w' => e = .returned (.tuple #[.agg #[.string x.name, .string x.maker, .string x.tags, .int .i64 x.stock, .int .i64 x.price, .int .i64 x.born, .bool x.listed], .bool bx]) ∧ Below w5.heap.size w5 w') := Lib.hid (by
          have h := at_any cb F es nm t w5 (HCT.out.below (HWW.out w5 HK5.out).1) hns (by omega)
          unfold toldP itA at h
          rw [HXX.out, HBX.out] at h
          exact h)
        have tt5 := (HWW.out w5 HK5.out).2.1.2
        have hysh := HSZ.out y (by unfold findI at hf; exact List.mem_of_find?_eq_some hf)
        have hym : y.maker.size ≤ 1000000 := hysh.2.1
        have hyt : y.tags.size ≤ 1000000 := hysh.2.2
        have hyS : (y.maker ++ ⟨#[59]⟩ : ByteArray).size ≤ 1000001 := by
          rw [ByteArray.size_append]
          show y.maker.size + 1 ≤ 1000001
          omega
        clear hf hysh
        go_wp2_with (first
          | (at_lookup; refine wpList_look_okM _ rfl _ _ 75 rfl 9 47 (string_keyed Tryz.underlying9) Tryz.underlying75 okIt _ (zeroIt _) zeroIt_ok mb _ _ rfl HMR.out _ _ rfl (WideMaps.keyOf_string_mk Tryz.underlying9 hnx) _ HLG.out _ HLI.out ?_))
        clear hw5 tt5 e0
        refine HAT.out.mono ?_
        rintro e w6 ⟨rfl, hb6⟩
        obtain ⟨w7, hw7⟩ : ∃ w7, w6.alloc (.cells #[.string x.name, .string x.maker, .string x.tags, .int .i64 x.stock, .int .i64 x.price, .int .i64 x.born, .bool x.listed] 47) = w7 := ⟨_, rfl⟩
        have HX7 : Hid (Blk w7 w6.heap.size 47 #[.string x.name, .string x.maker, .string x.tags, .int .i64 x.stock, .int .i64 x.price, .int .i64 x.born, .bool x.listed]) := Lib.hid (by rw [← hw7]; exact Blk.new _ _ _)
        have HB57 : Hid (Below w5.heap.size w5 w7) := Lib.hid (by rw [← hw7]; exact hb6.alloc hb6.size _)
        have HBr7 : Hid (Below wr.heap.size wr w7) := Lib.hid (HBr5.out.trans (HB57.out.mono HBr5.out.size))
        have HY7 : Hid (Blk w7 wr.heap.size 47 #[.string y.name, .string y.maker, .string y.tags, .int .i64 y.stock, .int .i64 y.price, .int .i64 y.born, .bool y.listed]) := Lib.hid (HY5.out.kept (below_kept (S := fun _ => False) HB57.out (Nat.le_refl _)) (fun h => h))
        have HT7 : Hid (TellIn w7 base lb LX) := Lib.hid (hti.out.below HBr7.out)
        have HK7 : Hid (Kept (fun q => q = lb ∨ base ≤ q) wB w7) := Lib.hid (HK5.out.below HB57.out HK5.out.size)
        have hz65 : wr.heap.size ≤ w6.heap.size := Nat.le_trans HBr5.out.size hb6.size
        have hlbr : lb < wr.heap.size := by have := hlbb.out; have := HBS.out; omega
        have HNX : Hid (¬ (w6.heap.size = lb ∨ TellOwn w7 lb w6.heap.size)) := Lib.hid (fun h => by
          rcases h with h | h
          · omega
          · have := (TellOwn.of hti.out HBr7.out h).2; omega)
        have HNY : Hid (¬ (wr.heap.size = lb ∨ TellOwn w7 lb wr.heap.size)) := Lib.hid (fun h => by
          rcases h with h | h
          · omega
          · have := (TellOwn.of hti.out HBr7.out h).2; omega)
        have HY6 : Hid (Blk w6 wr.heap.size 47 #[.string y.name, .string y.maker, .string y.tags, .int .i64 y.stock, .int .i64 y.price, .int .i64 y.born, .bool y.listed]) := Lib.hid (HY5.out.kept (below_kept (S := fun _ => False) hb6 (Nat.le_refl _)) (fun h => h))
        have hyz : wr.heap.size < w6.heap.size := HY6.out.lt
        have b1 : w6.cell? ⟨wr.heap.size, 1, none⟩ = some (.string y.maker) := HY6.out.cell 1
        have b2 : w6.cell? ⟨wr.heap.size, 2, none⟩ = some (.string y.tags) := HY6.out.cell 2
        have b3 : w6.cell? ⟨wr.heap.size, 3, none⟩ = some (.int .i64 y.stock) := HY6.out.cell 3
        have b4 : w6.cell? ⟨wr.heap.size, 4, none⟩ = some (.int .i64 y.price) := HY6.out.cell 4
        have HHW7 := Lib.hid hw7
        clear hb6 HAT hw7
        by_cases hl1 : x.listed = false
        · have HPC : Hid (¬ (x.listed = true ∧ x.maker = y.maker ∧ x.tags = y.tags ∧ x.price = y.price)) := Lib.hid (fun h => by rw [hl1] at h; cases h.1)
          rw [hl1] at HHW7
          have HTL1 := Lib.hid (tell_any w7 base w1.heap.size w.heap.size lb src t LX nm 11 y.price (y.maker ++ ⟨#[59]⟩ ++ y.tags) (HWW.out w7 HK7.out).2.1.1 (HWW.out w7 HK7.out).2.1.2 HT7.out (by have := HK7.out.size; have := HBS.out; omega) (by have := HLX.out; omega))
          go_wp2_with fail
          rw [HHW7.out]
          refine HTL1.out.mono ?_
          rintro e w8 ⟨rfl, ht8, hk8⟩
          have HT8 := Lib.hid ht8
          have HK8 : Hid (Kept (fun q => q = lb ∨ base ≤ q) wB w8) := Lib.hid (HK7.out.trans' hk8 (fun i _ hS => hS.imp id (fun h => (TellOwn.of HT7.out (Below.refl _ _) h).1)))
          have x3 : w8.cell? ⟨w6.heap.size, 3, none⟩ = some (.int .i64 x.stock) := (hk8.cell (p := ⟨w6.heap.size, 3, none⟩) HX7.out.lt (fun h => HNX.out h)).trans (HX7.out.cell 3)
          have y3 : w8.cell? ⟨wr.heap.size, 3, none⟩ = some (.int .i64 y.stock) := (hk8.cell (p := ⟨wr.heap.size, 3, none⟩) HY7.out.lt (fun h => HNY.out h)).trans (HY7.out.cell 3)
          clear ht8 hk8 HTL1 b1 b2 b3 b4 HHW7
          by_cases qs : x.stock = y.stock
          · have qs2 : (x.stock != y.stock) = false := by simp [qs]
            have HTE : Hid (TellIn w8 base lb (rawD es t src (l.map roOf) (ns.take (k + 1)))) := Lib.hid (by
              rw [HRD.out, HYR.out, tell1_some, if_neg HPC.out, if_pos qs, List.append_nil]
              first | exact HT8.out | simpa [mkE] using HT8.out)
            have HKE := HK8
            clear qs
            go_wp2_with fail
            go_roundw
            case rel => exact ⟨k + 1, by omega, by go_num, HTE, HKE⟩
            case measure => simp [intOf]; omega
          · have qs2 : (x.stock != y.stock) = true := by rw [bne_iff_ne]; exact qs
            have HQS := Lib.hid qs
            have HTL2 := Lib.hid (tell_any w8 base w1.heap.size w.heap.size lb src t (LX ++ [mkE src 0 t nm (11, y.price, y.maker ++ ⟨#[59]⟩ ++ y.tags)]) nm 12 y.stock ⟨#[]⟩ (HWW.out w8 HK8.out).2.1.1 (HWW.out w8 HK8.out).2.1.2 HT8.out (by have := HK8.out.size; have := HBS.out; omega) (by have := HLX.out; simp; omega))
            clear qs
            go_wp2_with fail
            refine HTL2.out.mono ?_
            rintro e w9 ⟨rfl, ht9, hk9⟩
            have HTE : Hid (TellIn w9 base lb (rawD es t src (l.map roOf) (ns.take (k + 1)))) := Lib.hid (by
              rw [HRD.out, HYR.out, tell1_some, if_neg HPC.out, if_neg HQS.out]
              simpa [mkE] using ht9)
            have HKE : Hid (Kept (fun q => q = lb ∨ base ≤ q) wB w9) := Lib.hid (HK8.out.trans' hk9 (fun i _ hS => hS.imp id (fun h => (TellOwn.of HT8.out (Below.refl _ _) h).1)))
            clear ht9 hk9 HTL2
            go_wp2_with fail
            go_roundw
            case rel => exact ⟨k + 1, by omega, by go_num, HTE, HKE⟩
            case measure => simp [intOf]; omega
        rw [Bool.not_eq_false] at hl1
        rw [hl1] at HHW7
        have HL1 := Lib.hid hl1
        by_cases p2 : x.maker = y.maker
        rotate_left
        · have HPC : Hid (¬ (x.listed = true ∧ x.maker = y.maker ∧ x.tags = y.tags ∧ x.price = y.price)) := Lib.hid (fun h => p2 h.2.1)
          have f2 : (!x.maker.toList == y.maker.toList) = true := by rw [Bool.not_eq_true']; exact Bool.eq_false_iff.2 (fun e => p2 ((beq_list _ _).1 e))
          clear p2
          have HTL1 := Lib.hid (tell_any w7 base w1.heap.size w.heap.size lb src t LX nm 11 y.price (y.maker ++ ⟨#[59]⟩ ++ y.tags) (HWW.out w7 HK7.out).2.1.1 (HWW.out w7 HK7.out).2.1.2 HT7.out (by have := HK7.out.size; have := HBS.out; omega) (by have := HLX.out; omega))
          go_wp2_with fail
          rw [HHW7.out]
          refine HTL1.out.mono ?_
          rintro e w8 ⟨rfl, ht8, hk8⟩
          have HT8 := Lib.hid ht8
          have HK8 : Hid (Kept (fun q => q = lb ∨ base ≤ q) wB w8) := Lib.hid (HK7.out.trans' hk8 (fun i _ hS => hS.imp id (fun h => (TellOwn.of HT7.out (Below.refl _ _) h).1)))
          have x3 : w8.cell? ⟨w6.heap.size, 3, none⟩ = some (.int .i64 x.stock) := (hk8.cell (p := ⟨w6.heap.size, 3, none⟩) HX7.out.lt (fun h => HNX.out h)).trans (HX7.out.cell 3)
          have y3 : w8.cell? ⟨wr.heap.size, 3, none⟩ = some (.int .i64 y.stock) := (hk8.cell (p := ⟨wr.heap.size, 3, none⟩) HY7.out.lt (fun h => HNY.out h)).trans (HY7.out.cell 3)
          clear ht8 hk8 HTL1 b1 b2 b3 b4 HHW7
          by_cases qs : x.stock = y.stock
          · have qs2 : (x.stock != y.stock) = false := by simp [qs]
            have HTE : Hid (TellIn w8 base lb (rawD es t src (l.map roOf) (ns.take (k + 1)))) := Lib.hid (by
              rw [HRD.out, HYR.out, tell1_some, if_neg HPC.out, if_pos qs, List.append_nil]
              first | exact HT8.out | simpa [mkE] using HT8.out)
            have HKE := HK8
            clear qs
            go_wp2_with fail
            go_roundw
            case rel => exact ⟨k + 1, by omega, by go_num, HTE, HKE⟩
            case measure => simp [intOf]; omega
          · have qs2 : (x.stock != y.stock) = true := by rw [bne_iff_ne]; exact qs
            have HQS := Lib.hid qs
            have HTL2 := Lib.hid (tell_any w8 base w1.heap.size w.heap.size lb src t (LX ++ [mkE src 0 t nm (11, y.price, y.maker ++ ⟨#[59]⟩ ++ y.tags)]) nm 12 y.stock ⟨#[]⟩ (HWW.out w8 HK8.out).2.1.1 (HWW.out w8 HK8.out).2.1.2 HT8.out (by have := HK8.out.size; have := HBS.out; omega) (by have := HLX.out; simp; omega))
            clear qs
            go_wp2_with fail
            refine HTL2.out.mono ?_
            rintro e w9 ⟨rfl, ht9, hk9⟩
            have HTE : Hid (TellIn w9 base lb (rawD es t src (l.map roOf) (ns.take (k + 1)))) := Lib.hid (by
              rw [HRD.out, HYR.out, tell1_some, if_neg HPC.out, if_neg HQS.out]
              simpa [mkE] using ht9)
            have HKE : Hid (Kept (fun q => q = lb ∨ base ≤ q) wB w9) := Lib.hid (HK8.out.trans' hk9 (fun i _ hS => hS.imp id (fun h => (TellOwn.of HT8.out (Below.refl _ _) h).1)))
            clear ht9 hk9 HTL2
            go_wp2_with fail
            go_roundw
            case rel => exact ⟨k + 1, by omega, by go_num, HTE, HKE⟩
            case measure => simp [intOf]; omega
        have f2 : (!x.maker.toList == y.maker.toList) = false := by rw [(beq_list _ _).2 p2]; rfl
        have HP2 := Lib.hid p2
        clear p2
        by_cases p3 : x.tags = y.tags
        rotate_left
        · have HPC : Hid (¬ (x.listed = true ∧ x.maker = y.maker ∧ x.tags = y.tags ∧ x.price = y.price)) := Lib.hid (fun h => p3 h.2.2.1)
          have f3 : (!x.tags.toList == y.tags.toList) = true := by rw [Bool.not_eq_true']; exact Bool.eq_false_iff.2 (fun e => p3 ((beq_list _ _).1 e))
          clear p3
          have HTL1 := Lib.hid (tell_any w7 base w1.heap.size w.heap.size lb src t LX nm 11 y.price (y.maker ++ ⟨#[59]⟩ ++ y.tags) (HWW.out w7 HK7.out).2.1.1 (HWW.out w7 HK7.out).2.1.2 HT7.out (by have := HK7.out.size; have := HBS.out; omega) (by have := HLX.out; omega))
          go_wp2_with fail
          rw [HHW7.out]
          refine HTL1.out.mono ?_
          rintro e w8 ⟨rfl, ht8, hk8⟩
          have HT8 := Lib.hid ht8
          have HK8 : Hid (Kept (fun q => q = lb ∨ base ≤ q) wB w8) := Lib.hid (HK7.out.trans' hk8 (fun i _ hS => hS.imp id (fun h => (TellOwn.of HT7.out (Below.refl _ _) h).1)))
          have x3 : w8.cell? ⟨w6.heap.size, 3, none⟩ = some (.int .i64 x.stock) := (hk8.cell (p := ⟨w6.heap.size, 3, none⟩) HX7.out.lt (fun h => HNX.out h)).trans (HX7.out.cell 3)
          have y3 : w8.cell? ⟨wr.heap.size, 3, none⟩ = some (.int .i64 y.stock) := (hk8.cell (p := ⟨wr.heap.size, 3, none⟩) HY7.out.lt (fun h => HNY.out h)).trans (HY7.out.cell 3)
          clear ht8 hk8 HTL1 b1 b2 b3 b4 HHW7
          by_cases qs : x.stock = y.stock
          · have qs2 : (x.stock != y.stock) = false := by simp [qs]
            have HTE : Hid (TellIn w8 base lb (rawD es t src (l.map roOf) (ns.take (k + 1)))) := Lib.hid (by
              rw [HRD.out, HYR.out, tell1_some, if_neg HPC.out, if_pos qs, List.append_nil]
              first | exact HT8.out | simpa [mkE] using HT8.out)
            have HKE := HK8
            clear qs
            go_wp2_with fail
            go_roundw
            case rel => exact ⟨k + 1, by omega, by go_num, HTE, HKE⟩
            case measure => simp [intOf]; omega
          · have qs2 : (x.stock != y.stock) = true := by rw [bne_iff_ne]; exact qs
            have HQS := Lib.hid qs
            have HTL2 := Lib.hid (tell_any w8 base w1.heap.size w.heap.size lb src t (LX ++ [mkE src 0 t nm (11, y.price, y.maker ++ ⟨#[59]⟩ ++ y.tags)]) nm 12 y.stock ⟨#[]⟩ (HWW.out w8 HK8.out).2.1.1 (HWW.out w8 HK8.out).2.1.2 HT8.out (by have := HK8.out.size; have := HBS.out; omega) (by have := HLX.out; simp; omega))
            clear qs
            go_wp2_with fail
            refine HTL2.out.mono ?_
            rintro e w9 ⟨rfl, ht9, hk9⟩
            have HTE : Hid (TellIn w9 base lb (rawD es t src (l.map roOf) (ns.take (k + 1)))) := Lib.hid (by
              rw [HRD.out, HYR.out, tell1_some, if_neg HPC.out, if_neg HQS.out]
              simpa [mkE] using ht9)
            have HKE : Hid (Kept (fun q => q = lb ∨ base ≤ q) wB w9) := Lib.hid (HK8.out.trans' hk9 (fun i _ hS => hS.imp id (fun h => (TellOwn.of HT8.out (Below.refl _ _) h).1)))
            clear ht9 hk9 HTL2
            go_wp2_with fail
            go_roundw
            case rel => exact ⟨k + 1, by omega, by go_num, HTE, HKE⟩
            case measure => simp [intOf]; omega
        have f3 : (!x.tags.toList == y.tags.toList) = false := by rw [(beq_list _ _).2 p3]; rfl
        have HP3 := Lib.hid p3
        clear p3
        by_cases p4 : x.price = y.price
        rotate_left
        · have HPC : Hid (¬ (x.listed = true ∧ x.maker = y.maker ∧ x.tags = y.tags ∧ x.price = y.price)) := Lib.hid (fun h => p4 h.2.2.2)
          have f4 : (x.price != y.price) = true := by rw [bne_iff_ne]; exact p4
          clear p4
          have HTL1 := Lib.hid (tell_any w7 base w1.heap.size w.heap.size lb src t LX nm 11 y.price (y.maker ++ ⟨#[59]⟩ ++ y.tags) (HWW.out w7 HK7.out).2.1.1 (HWW.out w7 HK7.out).2.1.2 HT7.out (by have := HK7.out.size; have := HBS.out; omega) (by have := HLX.out; omega))
          go_wp2_with fail
          rw [HHW7.out]
          refine HTL1.out.mono ?_
          rintro e w8 ⟨rfl, ht8, hk8⟩
          have HT8 := Lib.hid ht8
          have HK8 : Hid (Kept (fun q => q = lb ∨ base ≤ q) wB w8) := Lib.hid (HK7.out.trans' hk8 (fun i _ hS => hS.imp id (fun h => (TellOwn.of HT7.out (Below.refl _ _) h).1)))
          have x3 : w8.cell? ⟨w6.heap.size, 3, none⟩ = some (.int .i64 x.stock) := (hk8.cell (p := ⟨w6.heap.size, 3, none⟩) HX7.out.lt (fun h => HNX.out h)).trans (HX7.out.cell 3)
          have y3 : w8.cell? ⟨wr.heap.size, 3, none⟩ = some (.int .i64 y.stock) := (hk8.cell (p := ⟨wr.heap.size, 3, none⟩) HY7.out.lt (fun h => HNY.out h)).trans (HY7.out.cell 3)
          clear ht8 hk8 HTL1 b1 b2 b3 b4 HHW7
          by_cases qs : x.stock = y.stock
          · have qs2 : (x.stock != y.stock) = false := by simp [qs]
            have HTE : Hid (TellIn w8 base lb (rawD es t src (l.map roOf) (ns.take (k + 1)))) := Lib.hid (by
              rw [HRD.out, HYR.out, tell1_some, if_neg HPC.out, if_pos qs, List.append_nil]
              first | exact HT8.out | simpa [mkE] using HT8.out)
            have HKE := HK8
            clear qs
            go_wp2_with fail
            go_roundw
            case rel => exact ⟨k + 1, by omega, by go_num, HTE, HKE⟩
            case measure => simp [intOf]; omega
          · have qs2 : (x.stock != y.stock) = true := by rw [bne_iff_ne]; exact qs
            have HQS := Lib.hid qs
            have HTL2 := Lib.hid (tell_any w8 base w1.heap.size w.heap.size lb src t (LX ++ [mkE src 0 t nm (11, y.price, y.maker ++ ⟨#[59]⟩ ++ y.tags)]) nm 12 y.stock ⟨#[]⟩ (HWW.out w8 HK8.out).2.1.1 (HWW.out w8 HK8.out).2.1.2 HT8.out (by have := HK8.out.size; have := HBS.out; omega) (by have := HLX.out; simp; omega))
            clear qs
            go_wp2_with fail
            refine HTL2.out.mono ?_
            rintro e w9 ⟨rfl, ht9, hk9⟩
            have HTE : Hid (TellIn w9 base lb (rawD es t src (l.map roOf) (ns.take (k + 1)))) := Lib.hid (by
              rw [HRD.out, HYR.out, tell1_some, if_neg HPC.out, if_neg HQS.out]
              simpa [mkE] using ht9)
            have HKE : Hid (Kept (fun q => q = lb ∨ base ≤ q) wB w9) := Lib.hid (HK8.out.trans' hk9 (fun i _ hS => hS.imp id (fun h => (TellOwn.of HT8.out (Below.refl _ _) h).1)))
            clear ht9 hk9 HTL2
            go_wp2_with fail
            go_roundw
            case rel => exact ⟨k + 1, by omega, by go_num, HTE, HKE⟩
            case measure => simp [intOf]; omega
        have f4 : (x.price != y.price) = false := by simp [p4]
        have HP4 := Lib.hid p4
        clear p4
        have HPC : Hid (x.listed = true ∧ x.maker = y.maker ∧ x.tags = y.tags ∧ x.price = y.price) := Lib.hid ⟨HL1.out, HP2.out, HP3.out, HP4.out⟩
        by_cases qs : x.stock = y.stock
        · have qs2 : (x.stock != y.stock) = false := by simp [qs]
          have HTE : Hid (TellIn w7 base lb (rawD es t src (l.map roOf) (ns.take (k + 1)))) := Lib.hid (by
            rw [HRD.out, HYR.out, tell1_some, if_pos HPC.out, if_pos qs, List.append_nil]
            first | exact HT7.out | simpa [mkE] using HT7.out)
          have HKE := HK7
          clear qs
          go_wp2_with fail
          rw [HHW7.out]
          go_roundw
          case rel => exact ⟨k + 1, by omega, by go_num, HTE, HKE⟩
          case measure => simp [intOf]; omega
        · have qs2 : (x.stock != y.stock) = true := by rw [bne_iff_ne]; exact qs
          have HQS := Lib.hid qs
          have HTL2 := Lib.hid (tell_any w7 base w1.heap.size w.heap.size lb src t (LX) nm 12 y.stock ⟨#[]⟩ (HWW.out w7 HK7.out).2.1.1 (HWW.out w7 HK7.out).2.1.2 HT7.out (by have := HK7.out.size; have := HBS.out; omega) (by have := HLX.out; simp; omega))
          clear qs
          go_wp2_with fail
          rw [HHW7.out]
          refine HTL2.out.mono ?_
          rintro e w9 ⟨rfl, ht9, hk9⟩
          have HTE : Hid (TellIn w9 base lb (rawD es t src (l.map roOf) (ns.take (k + 1)))) := Lib.hid (by
            rw [HRD.out, HYR.out, tell1_some, if_pos HPC.out, if_neg HQS.out]
            simpa [mkE] using ht9)
          have HKE : Hid (Kept (fun q => q = lb ∨ base ≤ q) wB w9) := Lib.hid (HK7.out.trans' hk9 (fun i _ hS => hS.imp id (fun h => (TellOwn.of HT7.out (Below.refl _ _) h).1)))
          clear ht9 hk9 HTL2
          go_wp2_with fail
          go_roundw
          case rel => exact ⟨k + 1, by omega, by go_num, HTE, HKE⟩
          case measure => simp [intOf]; omega
    · obtain rfl : nn = k := by omega
      obtain ⟨RL, hRL⟩ : ∃ RL, rawD es t src (l.map roOf) ns = RL := ⟨_, rfl⟩
      have HRL : Hid (RL.length ≤ 4000) := Lib.hid (by
        rw [← hRL]
        refine Nat.le_trans (len_raw _ _ _ _ _) ?_
        rw [HNN.out]; omega)
      rw [show ns.take nn = ns from by rw [← HNN.out, List.take_length], hRL] at hti
      obtain ⟨Af, cf, hblk, hown⟩ := hti.out
      obtain ⟨m, hm⟩ : ∃ m, RL.length = m := ⟨_, rfl⟩
      rw [hm] at hblk hown
      have hm4 : m ≤ 4000 := by rw [← hm]; exact HRL.out
      have HM := Lib.hid hm
      have HIS : Hid (∀ out, out = (if 0 < m ∧ 1099511627777 - (m : Int) < num then [] else numD num RL) → IsDiff es t src num (l.map roOf) out) := Lib.hid (fun out ho => ⟨fun h => (by rw [HGO.out] at h; cases h), fun _ ns' hns' => by
        obtain rfl : ns' = ns := hns'.one HND.out (fun _ => rfl)
        rw [hRL, hm]
        exact ho⟩)
      have l0 : wr.cell? ⟨lb, 0, none⟩ = some (.slice Af m cf) := hblk.cell 0
      have HBF := Lib.hid hblk
      have HOF : Hid (wr.ownsRow base 41 8 (.slice Af m cf) m ((midN num RL 0).flatMap evC)) := Lib.hid (by rw [mid_zero]; exact hown)
      have hn1 : 1 ≤ num := by omega
      clear hblk hown hm hRL hti
      by_cases z0 : 0 < m
      · have dm : decide ((0 : Int) < (m : Int)) = true := decide_eq_true (by omega)
        by_cases gg : 1099511627777 - (m : Int) < num
        · have dg : decide ((1099511627776 : Int) - (m : Int) + 1 < num) = true := decide_eq_true (by omega)
          have HF : Hid (IsDiff es t src num (l.map roOf) []) := Lib.hid (HIS.out _ (by rw [if_pos ⟨z0, gg⟩]))
          go_wp2_with fail
          go_ret
          exact ⟨none, 0, [], rfl, HF.out, by simp, RowIn.nil _ _ _ _, ⟨fun _ => rfl, fun ad h => by cases h⟩, (HWW.out _ hkw.out).1⟩
        · have dg : decide ((1099511627776 : Int) - (m : Int) + 1 < num) = false := decide_eq_false (by omega)
          have HIF : Hid (¬ (0 < m ∧ 1099511627777 - (m : Int) < num)) := Lib.hid (fun h => gg h.2)
          have hn2 : num ≤ 1099511627777 - (m : Int) := by omega
          have HN9 : Hid (0 < m → num ≤ 1099511627777) := Lib.hid (fun _ => by omega)
          clear gg
          go_wp2_with fail
          go_loopw [142] (fun i wq => ∃ j : Nat, j ≤ m ∧ i = .int .i64 j ∧ Hid (wq.ownsRow base 41 8 (.slice Af m cf) m ((midN num RL j).flatMap evC)) ∧ Hid (Blk wq lb 23 #[.slice Af m cf]) ∧ Hid (Kept (fun q => q = lb ∨ base ≤ q) wB wq)) (fun i _ => m - (intOf i).toNat)
          case atStart => exact ⟨0, Nat.zero_le _, rfl, HOF, HBF, hkw⟩
          case round =>
            clear HOF HBF
            obtain ⟨w0, rfl⟩ : ∃ w0 : World, w0 = wr := ⟨_, rfl⟩
            obtain ⟨j, hj, rfl, ho, hbk, hkq⟩ := hrel
            have l1 := hbk.out.cell 0
            by_cases hlt2 : j < m
            · obtain ⟨e, he⟩ : ∃ e, RL[j]? = some e := ⟨RL[j]'(by rw [HM.out]; exact hlt2), List.getElem?_eq_getElem _⟩
              have HE := Lib.hid he
              obtain ⟨g, cap, hv, hgb, hgl⟩ := ho.out.form (by omega)
              injection hv with hv1 _ hv2
              subst hv1
              have c1 : World.cell? w0 ⟨g, j * 8 + 1, none⟩ = some (.int .i64 e.num) := by
                have h := ho.out.cells (g := g) rfl (j * 8 + 1) (.int .i64 e.num) (flat_get evC 8 evC_len _ j 1 e (mid_at he) (by omega))
                rwa [at_add, Nat.zero_add] at h
              have f1 : World.frozen? w0 ⟨g, j * 8 + 1, none⟩ = false := ho.out.frozenAt _
              have HST := Lib.hid (ho.out.stored (j * 8 + 1) (.int .i64 (num + (j : Int))))
              have HNE2 : Hid (lb ≠ g) := Lib.hid (fun e => by
                have := TellIn.ne hbk.out ho.out
                rw [e] at this
                exact this rfl)
              have HGB : Hid (base ≤ g) := Lib.hid hgb
              have hj8 : (j : Int) < (m : Int) := by omega
              have hj9 : (0 : Int) ≤ (j : Int) := by omega
              clear he hgb hgl
              go_wp2_with fail
              go_roundw
              case rel =>
                refine ⟨j + 1, by omega, by go_num, Lib.hid ?_, Lib.hid (hbk.out.far HNE2.out _), Lib.hid (hkq.out.setCell (p := ⟨g, j * 8 + 1, none⟩) (Or.inl (Or.inr HGB.out)) _)⟩
                have h := HST.out.1
                rw [flat_set (mid_at HE.out), mid_set num HE.out (by omega)] at h
                exact h
              case measure => simp [intOf]; omega
            · obtain rfl : m = j := by omega
              have HFI : Hid (midN num RL m = numD num RL) := Lib.hid (by rw [← HM.out]; exact mid_all _ _)
              go_wp2_with fail
              go_ret
              refine ⟨Af, cf, numD num RL, by rw [numD_len, HM.out]; rfl, HIS.out _ (by rw [if_neg HIF.out]), by rw [numD_len, HM.out]; omega, ?_, ⟨nil_cap ho.out, fun ad h => Nat.le_trans HWB.out (own_lo ho.out ad h)⟩, (HWW.out _ hkq.out).1⟩
              have h := RowIn.of_own ho.out
              rw [HFI.out] at h
              unfold EvsAt
              rw [numD_len, HM.out]
              exact h
      · have dm : decide ((0 : Int) < (m : Int)) = false := decide_eq_false (by omega)
        have HIF : Hid (¬ (0 < m ∧ 1099511627777 - (m : Int) < num)) := Lib.hid (fun h => z0 h.1)
        have HN9 : Hid (0 < m → num ≤ 1099511627777) := Lib.hid (fun h => absurd h z0)
        have hmz : m ≤ 0 := by omega
        clear z0
        go_wp2_with fail
        go_loopw [142] (fun i wq => i = .int .i64 0 ∧ wq = wr) (fun i _ => 0)
        case atStart => exact ⟨rfl, rfl⟩
        case round =>
          obtain ⟨w0, hw0⟩ : ∃ w0 : World, w0 = wr := ⟨_, rfl⟩
          obtain ⟨rfl, rfl⟩ := hrel
          have dz : decide ((0 : Int) < (m : Int)) = false := decide_eq_false (by omega)
          have HRN : Hid (RL = []) := Lib.hid (List.eq_nil_of_length_eq_zero (by rw [HM.out]; omega))
          go_wp2_with fail
          go_ret
          refine ⟨Af, cf, [], ?_, HIS.out _ (by rw [if_neg HIF.out, HRN.out]; rfl), by simp, RowIn.nil _ _ _ _, ⟨nil_cap HOF.out, fun ad h => Nat.le_trans HWB.out (own_lo HOF.out ad h)⟩, (HWW.out _ hkw.out).1⟩
          have : m = 0 := by omega
          rw [this]
          rfl

end Go.Proofs.YtdcinodbgbkobaaGreatDoor

/- feed.Parse. -/
import Derived.Test.YtdcinodbgbkobaaGreatDoorFdRow
import Derived.Test.YtdcinodbgbkobaaGreatDoorGg
namespace Go.Proofs.YtdcinodbgbkobaaGreatDoor
open Go.Shelf Go.RowKit Go.Maps
set_option linter.unusedVariables false

def ItGood (x : It) : Prop := x.born = 0 ∧ x.listed = true ∧ ItFew x
def ParseE (s : ByteArray) (w : World) (e : Ending) (w' : World) : Prop := ∃ (A : Option Addr) (c : Nat) (xs : List It) (n k : Nat) (er : Int), e = .returned (.tuple #[.slice A n c, .int .i64 k, .int .i64 er]) ∧ xs.length = n ∧ parseP s = (xs.map roOf, k, er) ∧ (∀ x ∈ xs, ItGood x) ∧ RowIn w' w'.heap.size 7 A n (xs.flatMap itC) ∧ (A = none → c = 0) ∧ n ≤ 4096 ∧ Below w.heap.size w w'
def okBl (v : Value) : Bool := match v with | .bool _ => true | _ => false
def hadG (l : List Ro) : ByteArray → Option Value := fun n => (findR l n).map fun _ => .bool true
theorem zeroBl (w : World) : (zeroValue 4).run Tryz.prog w = .ok (.bool false) w := by kernel_rfl
theorem findR_snoc' (l : List Ro) (x : Ro) (n : ByteArray) : findR (l ++ [x]) n = (findR l n).or (if x.name = n then some x else none) := by
  unfold findR
  rw [List.find?_append]
  by_cases h : x.name = n <;> simp [h]
theorem hadG_upd {l : List Ro} {x : Ro} : ∀ n, updG (hadG l) x.name (.bool true) n = hadG (l ++ [x]) n := by
  intro n
  unfold updG hadG
  rw [findR_snoc']
  by_cases e : n = x.name
  · subst e; rw [if_pos rfl, if_pos rfl]; cases findR l x.name <;> rfl
  · rw [if_neg e, if_neg (fun h => e h.symm)]; cases findR l n <;> rfl
theorem headN_size (s : ByteArray) : (headN s).size ≤ s.size := by
  cases h : cutsN s
  · rcases nl_cases s 10 with h1 | ⟨x, r, rfl, hx⟩
    · rw [(cutN_miss h1).1]; omega
    · have := (cutN_line r hx).2.2
      rw [show x ++ ⟨#[10]⟩ ++ r = x ++ nlB ++ r from rfl] at h
      rw [h] at this
      cases this
  · exact (rest_less h).2
theorem ParseTo.size {s0 s : ByteArray} {l : List Ro} (h : ParseTo s0 s l) : s.size ≤ s0.size ∧ l.length ≤ 4096 := ⟨by have := h.2.1; omega, h.1⟩

theorem own_kept {w w' : World} {base : Nat} {e : TypeId} {size : Nat} {v : Value} {n : Nat} {xs : List Value} (h : w.ownsRow base e size v n xs) {S : Nat → Prop} (k : Kept S w w') (hS : ∀ i, base ≤ i → ¬ S i) : w'.ownsRow base e size v n xs := by
  refine ⟨h.1, ?_⟩
  rcases h.2 with hn | ⟨g, cap, cur, hv, hb, hg, rest⟩
  · exact .inl hn
  · exact .inr ⟨g, cap, cur, hv, hb, (k.block g (Array.getElem?_eq_some_iff.1 hg).1 (hS g hb)).trans hg, rest⟩
def strZ : Value → Nat
  | .string c => c.size
  | _ => 0
theorem names_of {l : List It} {n : ByteArray} : (findR (l.map roOf) n) = (findI l n).map roOf := by
  induction l with
  | nil => rfl
  | cons a l ih =>
    unfold findR findI at *
    rw [List.map_cons, List.find?_cons, List.find?_cons, ih]
    by_cases h : a.name = n
    · rw [show decide ((roOf a).name = n) = true from decide_eq_true h, show decide (a.name = n) = true from decide_eq_true h]; rfl
    · rw [show decide ((roOf a).name = n) = false from decide_eq_false h, show decide (a.name = n) = false from decide_eq_false h]
theorem cur_ne {cur : ByteArray} (h : cur ≠ ⟨#[]⟩) : 0 < cur.size := by
  rcases Nat.eq_zero_or_pos cur.size with h0 | h0
  · exfalso
    apply h
    apply ba_eq
    have : cur.data.toList.length = 0 := by simpa using h0
    rw [List.length_eq_zero_iff.1 this]
  · exact h0

set_option maxHeartbeats 8000000 in
set_option maxRecDepth 100000 in
theorem parse_any (s : ByteArray) (w : World) (hs : s.size ≤ 100000) (hg : GlobAt w) (ht : TabAt w) (he : ErrAt w) :
    Calls Tryz.prog 13 #[.string s] w fun e w' => ParseE s w e w' := by
  have HG := Lib.hid hg
  have HT := Lib.hid ht
  have HE := Lib.hid he
  have hmm := @run_makeMap Tryz.prog
  obtain ⟨i0, hi0, hz0, hz1, hz2⟩ := info_parts it_info
  obtain ⟨w1, hw1⟩ : ∃ w1, w.alloc (.map #[] 0) = w1 := ⟨_, rfl⟩
  have HM1 : Hid (MapIs Tryz.prog 9 okBl w1 w.heap.size 0 (mapG (hadG []))) := Lib.hid (by rw [← hw1]; exact (MapIs.made _ _ _ _).congr (fun kl => by cases kl <;> rfl))
  have HB1 : Hid (Below w.heap.size w w1) := Lib.hid (by rw [← hw1]; exact (Below.refl _ _).alloc (Nat.le_refl _) _)
  have HZ1 : Hid (w.heap.size < w1.heap.size) := Lib.hid (by rw [← hw1]; simp)
  have HER : Hid (∀ (k : Nat) (er : Int) (W : World), parseP s = ([], k, er) → Below w.heap.size w W → ParseE s w (.returned (.tuple #[.slice none 0 0, .int .i64 k, .int .i64 er])) W) := Lib.hid (fun k er W h hb => ⟨none, 0, [], 0, k, er, rfl, rfl, h, fun x hx => (by cases hx), ⟨rfl, Or.inl rfl⟩, fun _ => rfl, Nat.zero_le _, hb⟩)
  clear hg ht he
  go_enter Tryz.func13, Tryz.ntmps13
  go_wp2_with fail
  clear hw1 hmm
  go_loopw [0, 5] (fun sv lv wr => ∃ (cur : ByteArray) (A5 : Option Addr) (c5 m : Nat) (xs : List It), sv = .string cur ∧ lv = .slice A5 m c5 ∧ m ≤ 4096 ∧ cur.size ≤ 100000 ∧ Hid (xs.length = m) ∧ Hid (ParseTo s cur (xs.map roOf)) ∧ Hid (∀ x ∈ xs, ItGood x) ∧ Hid (wr.ownsRow w1.heap.size 47 7 (.slice A5 m c5) m (xs.flatMap itC)) ∧ Hid (MapIs Tryz.prog 9 okBl wr w.heap.size m (mapG (hadG (xs.map roOf)))) ∧ Hid (Below w.heap.size w wr) ∧ Hid (w1.heap.size ≤ wr.heap.size)) (fun sv _ _ => strZ sv)
  case atStart => exact ⟨s, none, 0, 0, [], rfl, rfl, Nat.zero_le _, hs, Lib.hid rfl, Lib.hid (ParseTo.start s), Lib.hid (fun x hx => by cases hx), Lib.hid (own_nil _ _ _ _), HM1, HB1, Lib.hid (Nat.le_refl _)⟩
  case round =>
    clear HM1 HB1
    obtain ⟨cur, A5, c5, m, xs, rfl, rfl, hm, hcz, hlen, hpt, hgd, hrow, hmap, hbw, hzw⟩ := hrel
    by_cases h0 : cur = ⟨#[]⟩
    · have q0 : cur.toList.isEmpty = true := by rw [emp_iff]; exact decide_eq_true h0
      have HF : Hid (ParseE s w (.returned (.tuple #[.slice A5 m c5, .int .i64 m, .int .i64 0])) wr) := Lib.hid (by
        have h1 := hpt.out
        rw [h0] at h1
        have h2 := h1.done
        rw [List.length_map, hlen.out] at h2
        exact ⟨A5, c5, xs, m, m, 0, rfl, hlen.out, h2, hgd.out, RowIn.of_own hrow.out, fun h => own_none_cap (h ▸ hrow.out), hm, hbw.out⟩)
      clear h0
      go_wp2_with fail
      go_ret3
      exact HF.out
    · have q0 : cur.toList.isEmpty = false := by rw [emp_iff]; exact decide_eq_false h0
      have HNE0 := Lib.hid h0
      have HCT := Lib.hid (cutN_any cur wr (by omega) (HG.out.keep hbw.out (Nat.le_refl _)))
      clear h0
      go_wp2_with fail
      refine HCT.out.mono ?_
      rintro e w2 ⟨rfl, q, hw2⟩
      have HK2 : Hid (Kept (fun _ => False) wr w2) := Lib.hid (by rw [hw2]; exact (Kept.refl _ _).drewN q)
      have HB2 : Hid (Below w.heap.size w w2) := Lib.hid (by rw [hw2]; exact below_drewN hbw.out q)
      have HZ2 : Hid (w1.heap.size ≤ w2.heap.size) := Lib.hid (by rw [hw2]; exact hzw.out)
      have hhz := headN_size cur
      have HRW := Lib.hid (row_any (headN cur) w2 (by omega) (HG.out.keep HB2.out (Nat.le_refl _)) (HT.out.keep HB2.out) (HE.out.keep HB2.out))
      clear hw2 HCT
      go_wp2_with fail
      refine HRW.out.mono ?_
      rintro e w3 ⟨x, bb, rfl, hrp, hb3⟩
      unfold itA
      have HRP := Lib.hid hrp
      have HK3 : Hid (Kept (fun _ => False) wr w3) := Lib.hid (HK2.out.below hb3 HK2.out.size)
      have HB3 : Hid (Below w.heap.size w w3) := Lib.hid (HB2.out.trans (hb3.mono HB2.out.size))
      have HZ3 : Hid (w1.heap.size ≤ w3.heap.size) := Lib.hid (Nat.le_trans HZ2.out hb3.size)
      obtain ⟨w4, hw4⟩ : ∃ w4, w3.alloc (.cells #[.string x.name, .string x.maker, .string x.tags, .int .i64 x.stock, .int .i64 x.price, .int .i64 x.born, .bool x.listed] 47) = w4 := ⟨_, rfl⟩
      have HI4 : Hid (Blk w4 w3.heap.size 47 (itArr x)) := Lib.hid (by rw [← hw4]; exact Blk.new _ _ _)
      have HK4 : Hid (Kept (fun _ => False) wr w4) := Lib.hid (by rw [← hw4]; exact HK3.out.alloc _)
      have HB4 : Hid (Below w.heap.size w w4) := Lib.hid (by rw [← hw4]; exact HB3.out.alloc HB3.out.size _)
      have HZ4 : Hid (w1.heap.size ≤ w4.heap.size) := Lib.hid (by rw [← hw4]; simp; have := HZ3.out; omega)
      have HRW4 : Hid (w4.ownsRow w1.heap.size 47 7 (.slice A5 m c5) m (xs.flatMap itC)) := Lib.hid (own_kept hrow.out HK4.out (fun _ _ h => h))
      have HM4 : Hid (MapIs Tryz.prog 9 okBl w4 w.heap.size m (mapG (hadG (xs.map roOf)))) := Lib.hid (hmap.out.kept HK4.out (fun h => h))
      have b0 : w4.cell? ⟨w3.heap.size, 0, none⟩ = some (.string x.name) := HI4.out.cell 0
      have b1 : w4.cell? ⟨w3.heap.size, 1, none⟩ = some (.string x.maker) := HI4.out.cell 1
      have b2 : w4.cell? ⟨w3.heap.size, 2, none⟩ = some (.string x.tags) := HI4.out.cell 2
      have b3 : w4.cell? ⟨w3.heap.size, 3, none⟩ = some (.int .i64 x.stock) := HI4.out.cell 3
      have b4 : w4.cell? ⟨w3.heap.size, 4, none⟩ = some (.int .i64 x.price) := HI4.out.cell 4
      have b5 : w4.cell? ⟨w3.heap.size, 5, none⟩ = some (.int .i64 x.born) := HI4.out.cell 5
      have b6 : w4.cell? ⟨w3.heap.size, 6, none⟩ = some (.bool x.listed) := HI4.out.cell 6
      clear HRW hrp hb3 hhz
      cases hcu : cutsN cur
      · have HF : Hid (ParseE s w (.returned (.tuple #[.slice none 0 0, .int .i64 m, .int .i64 3])) w4) := Lib.hid (by
          have h2 := hpt.out.torn HNE0.out hcu
          rw [List.length_map, hlen.out] at h2
          exact HER.out _ _ _ h2 HB4.out)
        clear hcu
        cases bb
        · go_wp2_with fail
          go_ret3
          exact HF.out
        · go_wp2_with fail
          go_ret3
          exact HF.out
      · have HCU := Lib.hid hcu
        clear hcu
        cases bb
        · have HF : Hid (ParseE s w (.returned (.tuple #[.slice none 0 0, .int .i64 m, .int .i64 2])) w4) := Lib.hid (by
            have h2 := hpt.out.form HNE0.out HCU.out (HRP.out.2 rfl)
            rw [List.length_map, hlen.out] at h2
            exact HER.out _ _ _ h2 HB4.out)
          go_wp2_with fail
          go_ret3
          exact HF.out
        · have HRY := Lib.hid (HRP.out.1 rfl)
          have hns : x.name.size ≤ maxLen := by have := HRY.out.2.2.2.1; unfold maxLen; omega
          cases hfi : (findR (xs.map roOf) x.name).isSome
          · have HFN : Hid (findR (xs.map roOf) x.name = none) := Lib.hid (by
              cases h : findR (xs.map roOf) x.name with
              | none => rfl
              | some r => rw [h] at hfi; cases hfi)
            have HLG : Hid ((mapG (hadG (xs.map roOf)) (.string x.name.data.toList)).getD (.bool false) = .bool false) := Lib.hid (by rw [mapG_at]; unfold hadG; rw [HFN.out]; rfl)
            clear hfi
            by_cases hfull : m = 4096
            · have qf : ((m : Int) == 4096) = true := beq_iff_eq.2 (by omega)
              have HF : Hid (ParseE s w (.returned (.tuple #[.slice none 0 0, .int .i64 m, .int .i64 5])) w4) := Lib.hid (by
                have h2 := hpt.out.full HNE0.out HCU.out HRY.out.1 HFN.out (by rw [List.length_map, hlen.out]; omega)
                rw [List.length_map, hlen.out] at h2
                exact HER.out _ _ _ h2 HB4.out)
              clear hfull
              go_wp2_with (first
                | (at_lookup; refine wpList_lookM _ rfl _ _ 91 rfl 9 4 (string_keyed Tryz.underlying9) Tryz.underlying91 okBl _ (zeroBl _) rfl w.heap.size _ _ rfl HM4.out _ _ rfl (WideMaps.keyOf_string_mk Tryz.underlying9 hns) _ HLG.out ?_))
              go_ret3
              exact HF.out
            · have qf : ((m : Int) == 4096) = false := by rw [Bool.eq_false_iff]; intro e; have := beq_iff_eq.1 e; omega
              have HPN : Hid (ParseTo s (restN cur) (xs.map roOf ++ [roOf x])) := Lib.hid (hpt.out.next HNE0.out HCU.out HRY.out.1 HFN.out (by rw [List.length_map, hlen.out]; omega))
              have HRL : Hid ((restN cur).size < cur.size) := Lib.hid (by have := (rest_less HCU.out).1; omega)
              have hm2 : m < 4096 := by omega
              have HMAP5 : Hid (∀ w5, MapIs Tryz.prog 9 okBl w5 w.heap.size (m + 1) (upd (mapG (hadG (xs.map roOf))) (.string x.name.data.toList) (.bool true)) → MapIs Tryz.prog 9 okBl w5 w.heap.size (m + 1) (mapG (hadG ((xs ++ [x]).map roOf)))) := Lib.hid (fun w5 h => h.congr (fun kl => by
                rw [mapG_upd, List.map_append]
                cases kl with
                | string q => exact hadG_upd (x := roOf x) _
                | _ => rfl))
              have HIO := Lib.hid (it_one x)
              go_wp2_with (first
                | (at_lookup; refine wpList_lookM _ rfl _ _ 91 rfl 9 4 (string_keyed Tryz.underlying9) Tryz.underlying91 okBl _ (zeroBl _) rfl w.heap.size _ _ rfl HM4.out _ _ rfl (WideMaps.keyOf_string_mk Tryz.underlying9 hns) _ HLG.out ?_)
                | (at_mapUpdate; refine wpList_storeM _ rfl _ _ _ 91 rfl 9 4 (string_keyed Tryz.underlying9) Tryz.underlying91 okBl w.heap.size m _ rfl HM4.out (by unfold maxLen; omega) _ (.bool true) _ rfl rfl (WideMaps.keyOf_string_mk Tryz.underlying9 hns) rfl ?_; intro w5 hm5 hg5 hs5; refine Hid.out ?_))
              have HM5 : Hid (MapIs Tryz.prog 9 okBl w5 w.heap.size (m + 1) (mapG (hadG ((xs ++ [x]).map roOf)))) := Lib.hid (HMAP5.out w5 hm5)
              have HB5 : Hid (Below w.heap.size w w5) := Lib.hid (HB4.out.grown hg5 HB4.out.size (fun j hj => by cases hj; exact Nat.le_refl _))
              have HI5 : Hid (Blk w5 w3.heap.size 47 (itArr x)) := Lib.hid (HI4.out.grown hg5 (fun h => by injection h with h; have := HZ1.out; have := HZ3.out; omega))
              have HRW5 : Hid (w5.ownsRow w1.heap.size 47 7 (.slice A5 m c5) m (xs.flatMap itC)) := Lib.hid (HRW4.out.kept hg5 (Or.inr (fun h => by have := (HRW4.out.lt _ h).1; have := HZ1.out; omega)))
              have HZ5 : Hid (w1.heap.size ≤ w5.heap.size) := Lib.hid (by rw [hs5]; exact HZ4.out)
              have d0 : w5.cell? ⟨w3.heap.size, 0, none⟩ = some (.string x.name) := HI5.out.cell 0
              have d1 : w5.cell? ⟨w3.heap.size, 1, none⟩ = some (.string x.maker) := HI5.out.cell 1
              have d2 : w5.cell? ⟨w3.heap.size, 2, none⟩ = some (.string x.tags) := HI5.out.cell 2
              have d3 : w5.cell? ⟨w3.heap.size, 3, none⟩ = some (.int .i64 x.stock) := HI5.out.cell 3
              have d4 : w5.cell? ⟨w3.heap.size, 4, none⟩ = some (.int .i64 x.price) := HI5.out.cell 4
              have d5 : w5.cell? ⟨w3.heap.size, 5, none⟩ = some (.int .i64 x.born) := HI5.out.cell 5
              have d6 : w5.cell? ⟨w3.heap.size, 6, none⟩ = some (.bool x.listed) := HI5.out.cell 6
              have HR6 := Lib.hid (it1_row w5 x 47)
              clear hm5 hg5 hs5 b0 b1 b2 b3 b4 b5 b6
              refine Lib.hid ?_
              have HRW6 := fun o => Lib.hid (HRW5.out.alloc o)
              have hz6 : w1.heap.size ≤ (w5.alloc (.cells #[.string x.name, .string x.maker, .string x.tags, .int .i64 x.stock, .int .i64 x.price, .int .i64 x.born, .bool x.listed] 47)).heap.size := by simp; have := HZ5.out; omega
              go_wp2_with (first
                | (at_builtin; refine wpList_append_row _ rfl _ _ 43 rfl w1.heap.size 47 i0 _ 7 80 Tryz.underlying43 hi0 hz0 hz1 hz2 rfl (by omega) (.slice A5 m c5) m _ rfl (HRW6 _).out (w5.heap.size + 1) (some ⟨w5.heap.size, 0, none⟩) 1 1 _ rfl HR6.out (fun h => by cases h) HIO.out (by unfold maxLen; omega) (by omega) hz6 ?_; intro v8 w8 ho8 hg8 hv8; refine Hid.out ?_))
              obtain ⟨A8, c8, hv⟩ := own_shape ho8
              subst hv
              have HB8 : Hid (Below w.heap.size w w8) := Lib.hid ((HB5.out.alloc HB5.out.size _).grown hg8 (by simp; have := HB5.out.size; omega) (fun j hj => by have := (HRW5.out.lt _ hj).1; have := HZ1.out; omega))
              have HM8 : Hid (MapIs Tryz.prog 9 okBl w8 w.heap.size (m + 1) (mapG (hadG ((xs ++ [x]).map roOf)))) := Lib.hid ((HM5.out.alloc _).grown hg8 (fun h => by have := (HRW5.out.lt _ h.symm).1; have := HZ1.out; omega))
              have HO8 : Hid (w8.ownsRow w1.heap.size 47 7 (.slice A8 (m + 1) c8) (m + 1) ((xs ++ [x]).flatMap itC)) := Lib.hid (by rw [List.flatMap_append, List.flatMap_cons, List.flatMap_nil, List.append_nil]; exact ho8)
              have HZ8 : Hid (w1.heap.size ≤ w8.heap.size) := Lib.hid (Nat.le_trans hz6 hg8.size)
              have HGD : Hid (∀ y ∈ xs ++ [x], ItGood y) := Lib.hid (fun y hy => by
                rcases List.mem_append.1 hy with h | h
                · exact hgd.out y h
                · rw [List.mem_singleton] at h
                  subst h
                  exact HRY.out.2)
              have HLE : Hid ((xs ++ [x]).length = m + 1) := Lib.hid (by rw [List.length_append, hlen.out]; rfl)
              have hrz : (restN cur).size ≤ 100000 := by have := HRL.out; omega
              clear ho8 hg8 hv8 d0 d1 d2 d3 d4 d5 d6 hz6
              refine Lib.hid ?_
              go_wp2_with fail
              go_roundw
              case rel => exact ⟨restN cur, A8, c8, m + 1, xs ++ [x], rfl, rfl, by omega, hrz, HLE, Lib.hid (by rw [List.map_append]; exact HPN.out), HGD, HO8, HM8, HB8, HZ8⟩
              case measure => exact HRL.out
          · have HLG : Hid ((mapG (hadG (xs.map roOf)) (.string x.name.data.toList)).getD (.bool false) = .bool true) := Lib.hid (by
              rw [mapG_at]; unfold hadG
              obtain ⟨r, hr⟩ := Option.isSome_iff_exists.1 hfi
              rw [hr]; rfl)
            have HF : Hid (ParseE s w (.returned (.tuple #[.slice none 0 0, .int .i64 m, .int .i64 7])) w4) := Lib.hid (by
              have h2 := hpt.out.twice HNE0.out HCU.out HRY.out.1 hfi
              rw [List.length_map, hlen.out] at h2
              exact HER.out _ _ _ h2 HB4.out)
            clear hfi
            go_wp2_with (first
              | (at_lookup; refine wpList_lookM _ rfl _ _ 91 rfl 9 4 (string_keyed Tryz.underlying9) Tryz.underlying91 okBl _ (zeroBl _) rfl w.heap.size _ _ rfl HM4.out _ _ rfl (WideMaps.keyOf_string_mk Tryz.underlying9 hns) _ HLG.out ?_))
            go_ret3
            exact HF.out

end Go.Proofs.YtdcinodbgbkobaaGreatDoor

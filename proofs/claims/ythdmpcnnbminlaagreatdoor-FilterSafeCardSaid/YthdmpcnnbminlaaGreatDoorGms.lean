/- slices.Sort of names; which of the program; Names. -/
import Derived.Test.YthdmpcnnbminlaaGreatDoorGlH
import Derived.Test.YthdmpcnnbminlaaGreatDoorGtr
import Derived.Test.YthdmpcnnbminlaaGreatDoorLayS
import Derived.Sort.Walk0
namespace Go.Proofs.YthdmpcnnbminlaaGreatDoor.Ct
open Go.Shelf Go.RowKit Go.Maps
set_option linter.unusedVariables false
def sortN (l : List ByteArray) : List ByteArray := ((l.map fun x => x.data.toList).mergeSort fun x y => decide (x ≤ y)).map fun x => ⟨x.toArray⟩
theorem sortN_len (l : List ByteArray) : (sortN l).length = l.length := by simp [sortN, List.length_mergeSort]
theorem sortN_mem (l : List ByteArray) (n : ByteArray) : n ∈ sortN l ↔ n ∈ l := by
 unfold sortN
 rw [List.mem_map]
 constructor
 ·rintro ⟨x, hx, rfl⟩
  rw [List.mem_mergeSort, List.mem_map] at hx
  obtain ⟨y, hy, rfl⟩ := hx
  exact hy
 ·intro h
  exact ⟨n.data.toList, by rw [List.mem_mergeSort, List.mem_map]; exact ⟨n, h, rfl⟩, rfl⟩
theorem sortN_is {f : ByteArray → Bool} {l : List ByteArray} (hn : l.Nodup) (hm : ∀ n, n ∈ l ↔ f n = true) : IsNames f (sortN l) := by
 refine ⟨?_, fun n => by rw [sortN_mem]; exact hm n⟩
 unfold sortN
 rw [List.pairwise_map]
 have hs : ((l.map fun x => x.data.toList).mergeSort fun x y => decide (x ≤ y)).Pairwise (fun x y => decide (x ≤ y) = true) :=
  List.pairwise_mergeSort (fun a b c h1 h2 => by simp only [decide_eq_true_eq] at *; exact List.le_trans h1 h2) (fun a b => by simp only [Bool.or_eq_true, decide_eq_true_eq]; exact List.le_total a b) _
 have hnd : ((l.map fun x => x.data.toList).mergeSort fun x y => decide (x ≤ y)).Nodup := by
  rw [(List.mergeSort_perm _ _).nodup_iff]
  rw [List.nodup_iff_pairwise_ne, List.pairwise_map]
  exact (List.nodup_iff_pairwise_ne.1 hn).imp (fun hab e => hab (ba_eq e))
 refine (hs.and (List.nodup_iff_pairwise_ne.1 hnd)).imp ?_
 rintro a b ⟨h1, h2⟩
 show (⟨a.toArray⟩ : ByteArray).data.toList < (⟨b.toArray⟩ : ByteArray).data.toList
 exact Std.lt_of_le_of_ne (of_decide_eq_true h1) h2
theorem sort_any (w : World) (base : Nat) (A : Option Addr) (l : List ByteArray) (n c : Nat) (hn : l.length = n) (hl : w.ownsRow base 9 1 (.slice A n c) n (l.map .string)) (hb : n ≤ 1000000) :
  Calls Tryz.prog 108 #[.slice A n c] w fun e w' => e = .returned (.tuple #[]) ∧ RowIn w' w'.heap.size 1 A n ((sortN l).map .string) ∧ Below base w w' := by
 rcases Nat.eq_zero_or_pos n with h0 | h0
 ·subst h0
  obtain rfl : l = [] := List.eq_nil_of_length_eq_zero hn
  refine (Any.slices_Sort_string_none Tryz.laysSortS A c w).mono ?_
  rintro e w' ⟨rfl, rfl⟩
  have hs : sortN [] = [] := by simp [sortN]
  rw [hs]
  exact ⟨rfl, RowIn.nil _ _ _ _, Below.refl _ _⟩
 ·obtain ⟨g, cap, hv, hg, hlt⟩ := hl.form h0
  injection hv with hA _ hc
  subst hA
  subst hc
  have hcells := hl.cells (g := g) rfl
  have hH : Sort.Holds encStr w g 0 (l.map fun x => x.data.toList).toArray := by
   intro j hj
   have hj' : j < l.length := by simpa using hj
   have hgj : (l.map fun x => x.data.toList).toArray[j]! = l[j].data.toList := by simp [hj']
   refine ⟨?_, frozen_own hl _⟩
   rw [hgj]
   have := hcells j (.string l[j]) (by simp [hj'])
   rwa [at_add] at this
  have hcon := Any.slices_Sort_string Tryz.laysSortS g 0 c (l.map fun x => x.data.toList) w hH hlt (by simp; omega)
  rw [List.length_map, hn] at hcon
  refine hcon.mono ?_
  rintro e w' ⟨rfl, q, os, rfl⟩
  have hds : (((l.map fun x => x.data.toList).mergeSort fun x y => decide (x ≤ y)).toArray).size = (l.map fun x => x.data.toList).toArray.size := by simp [List.length_mergeSort]
  have hH2 := Sort.holds_grow encStr _ os g 0 _ (by rw [Sort.size_putRow]; exact hlt) (Sort.holds_putRow encStr (Sort.ahead w q) g 0 _ _ (Sort.holds_ahead encStr w q g 0 _ hH) hds)
  have hsz : w.heap.size ≤ (Sort.grow (Sort.putRow encStr (Sort.ahead w q) g 0 ((l.map fun x => x.data.toList).mergeSort fun x y => decide (x ≤ y)).toArray) os).heap.size := by
   show w.heap.size ≤ ((Sort.putRow encStr (Sort.ahead w q) g 0 _).heap ++ os).size
   rw [Array.size_append, Sort.size_putRow]
   exact Nat.le_add_right _ _
  refine ⟨rfl, ?_, ?_⟩
  ·refine ⟨by simp [sortN_len, hn], Or.inr ⟨g, 0, rfl, Nat.lt_of_lt_of_le hlt hsz, fun j u hu => ?_⟩⟩
   obtain ⟨hj, rfl⟩ := List.getElem?_eq_some_iff.1 hu
   rw [List.length_map, sortN_len] at hj
   have h1 := (hH2 j (by rw [hds]; simpa using hj)).1
   rw [h1]
   simp [sortN, List.length_mergeSort, hj]
  ·refine ⟨rfl, rfl, rfl, hsz, fun i hi => ?_⟩
   show ((Sort.putRow encStr (Sort.ahead w q) g 0 _).heap ++ os)[i]? = _
   rw [Array.getElem?_append_left (by rw [Sort.size_putRow]; show i < w.heap.size; omega)]
   simp only [Sort.putRow, Sort.mapBlock, Array.getElem?_modify]
   rw [if_neg (by omega)]
   rfl
theorem names1_any (x : It) (w : World) : Calls Tryz.prog 72 #[.agg #[.string x.name, .string x.maker, .string x.tags, .int .i64 x.stock, .int .i64 x.price, .int .i64 x.born, .bool x.listed]] w fun e w' => e = .returned (.bool true) ∧ Below w.heap.size w w' := by
 go_enter Tryz.func72, Tryz.ntmps72
 go_wp2_with fail
 go_ret
 exact ⟨rfl, (Below.refl _ _).alloc (Nat.le_refl _) _⟩
def whB (es : List Ev) (t : Int) (p : It → Bool) (n : ByteArray) : Bool := match atP es n t with | some x => x.listed && p x | none => false
theorem row_ne {es : List Ev} {n : ByteArray} (h : rowOf es n ≠ []) : ∃ e ∈ es, e.item = n := by
 cases hf : ofN es n with
 | nil => exact absurd (by unfold rowOf; rw [hf]; rfl) h
 | cons e l =>
  have : e ∈ ofN es n := by rw [hf]; simp
  unfold ofN at this
  rw [List.mem_filter] at this
  exact ⟨e, this.1, of_decide_eq_true this.2⟩
theorem fold_tags (l : List Ev) (h : ∀ e ∈ l, EvSh e) : ∀ r : List St, (∀ s ∈ r, s.item.tags.size ≤ 1000000) → ∀ s ∈ l.foldl rowStep r, s.item.tags.size ≤ 1000000 := by
 induction l with
 | nil => intro r hr; exact hr
 | cons e l ih =>
  intro r hr
  rw [List.foldl_cons]
  refine ih (fun x hx => h x (List.mem_cons_of_mem _ hx)) _ (fun s hs => ?_)
  unfold rowStep at hs
  rcases List.mem_append.1 hs with hs | hs
  ·exact hr s hs
  ·obtain rfl : s = _ := by simpa using hs
   have h0 : (r.getLast?.getD (st0 e.item)).item.tags.size ≤ 1000000 := by
    cases hl : r.getLast? with
    | none => exact Nat.zero_le _
    | some y => exact hr y (List.mem_of_getLast? hl)
   have h1 := (h e (by simp)).2.2.2
   have h2 := cut_le e.text
   unfold stepSt
   split
   ·show (restP e.text).size ≤ 1000000
    omega
   ·split <;> exact h0
theorem at_tags {es : List Ev} (h : ∀ e ∈ es, EvSh e) {n : ByteArray} {t : Int} {x : It} (hx : atP es n t = some x) : x.tags.size ≤ 1000000 := by
 unfold atP at hx
 obtain ⟨s, hs, rfl⟩ := Option.map_eq_some_iff.1 hx
 have h1 : s ∈ rowOf es n := (List.takeWhile_sublist _).subset (List.mem_of_getLast? hs)
 exact fold_tags _ (fun e he => h e (List.mem_filter.1 he).1) [] (fun s hs => by cases hs) s h1
set_option maxHeartbeats 2000000 in
set_option maxRecDepth 100000 in
theorem which_names (cb : Nat) (F : Nat → Prop) (es : List Ev) (t : Int) (w : World) (h : CatAt w cb F es) (hb : es.length ≤ 1000000) :
  Calls Tryz.prog 71 #[.pointer (some ⟨cb, 0, none⟩), .int .i64 t, .func (Fn.func 72) #[] #[]] w fun e w' => ∃ A c ks, e = .returned (.slice A ks.length c) ∧ IsNames (whB es t (fun x => true)) ks ∧ ks.length ≤ es.length ∧ RowIn w' w'.heap.size 1 A ks.length (ks.map .string) ∧ Below w.heap.size w w' := by
 obtain ⟨i0, hi0, hz0, hz1, hz2⟩ := info_parts str_info
 have HC := zh h
 have HSH := zh h.sh
 obtain ⟨mb, G, last, h⟩ := h
 have c9 : w.cell? ⟨cb, 9, none⟩ = some (.map (some mb)) := h.blk.cell 9
 have HM := zh h.map
 have HSM : Hid (∀ n, (G n).isSome = true → n.size ≤ 1000000) := zh (fun n hn => by
  by_cases hr : rowOf es n = []
  ·rw [h.none_ n hr] at hn; cases hn
  ·obtain ⟨e, he, rfl⟩ := row_ne hr
   exact (h.sh e he).2.2.1)
 have HGS : Hid (∀ n x, atP es n t = some x → (G n).isSome = true) := zh (fun n x hx => by
  have hr : rowOf es n ≠ [] := fun e => by unfold atP at hx; rw [e] at hx; cases hx
  obtain ⟨g, cap, h1, _⟩ := h.some_ n hr
  rw [h1]; rfl)
 have hml : mb < w.heap.size := h.lt _ h.fm
 clear h
 go_enter Tryz.func71, Tryz.ntmps71
 go_wp2_with (first
  | (at_range; refine wpList_rangeM _ rfl _ 128 rfl 9 127 (string_keyed Tryz.underlying9) Tryz.underlying128 okSl mb es.length _ rfl HM.out ?_; intro w1 cnt0 hrg0 hg0 hs0 hc0)
  | fail)
 have HRG0 := zh hrg0
 have HB1 : Hid (Below w.heap.size w w1) := zh ((Below.refl _ _).grown hg0 (Nat.le_refl _) (fun j hj => by cases hj))
 have HZ1 := zh hs0
 clear hrg0 hg0 hs0 HM
 go_frame
 go_loopw [7] (fun s wr => ∃ (left : Lit → Bool) (cnt : Nat) (out : List ByteArray), Hid (MapGoes Tryz.prog 9 okSl wr mb w.heap.size es.length (mapG G) left cnt) ∧ out.length + cnt ≤ es.length ∧ Hid (out.Nodup ∧ ∀ n, n ∈ out ↔ ((G n).isSome = true ∧ left (.string n.data.toList) = false ∧ whB es t (fun x => true) n = true)) ∧ Hid (wr.ownsRow (w.heap.size + 1) 9 1 s out.length (out.map .string)) ∧ Hid (Below w.heap.size w wr) ∧ Hid (w.heap.size + 1 ≤ wr.heap.size)) (fun _ wr => wr.rangeLeft mb w.heap.size)
 case atStart => exact ⟨_, _, [], HRG0, by simpa using hc0, zh ⟨List.Pairwise.nil, fun n => ⟨fun h => (by cases h), fun h => (by
  obtain ⟨h1, h2, _⟩ := h
  rw [mapG_at] at h2
  rw [h1] at h2
  cases h2)⟩⟩, zh (own_nil _ _ _ _), HB1, zh (by rw [HZ1.out]; exact Nat.le_refl _)⟩
 case round =>
  obtain ⟨left, cnt, out, hrg, hcnt, hout, hrow, hbw, hzw⟩ := hrel
  obtain ⟨A5, c5, hr⟩ := own_shape hrow.out
  rw [hr] at hrow ⊢
  clear hr
  go_wp2_with (first
   | (at_next; refine wpList_nextS _ rfl _ rfl 9 Tryz.underlying9 okSl (fun x : Option Addr × Nat × Nat => .slice x.1 x.2.1 x.2.2) (fun v hv => mk_sl hv) mb w.heap.size es.length _ _ _ rfl hrg.out ?_ ?_)
   | fail)
  ·intro _ hl
   have HL : Hid (∀ n, n ∈ out ↔ whB es t (fun x => true) n = true) := zh (fun n => by
    rw [hout.out.2 n]
    refine ⟨fun h => h.2.2, fun h => ⟨?_, hl _, h⟩⟩
    unfold whB at h
    cases ha : atP es n t with
    | none => rw [ha] at h; cases h
    | some x => exact HGS.out n x ha)
   have HSO := zh (sort_any wr (w.heap.size + 1) A5 out out.length c5 rfl hrow.out (by omega))
   have HIS := zh (sortN_is hout.out.1 HL.out)
   have HSL := zh (sortN_len out)
   clear hl
   go_wp2_with fail
   refine HSO.out.mono ?_
   rintro e w9 ⟨rfl, hrw, hb9⟩
   have HRW := zh hrw
   have HB9 : Hid (Below w.heap.size w w9) := zh (hbw.out.trans (hb9.mono (by omega)))
   clear hrw hb9 HSO
   go_wp2_with fail
   go_ret
   refine ⟨A5, c5, sortN out, ?_, HIS.out, ?_, ?_, HB9.out⟩
   ·rw [HSL.out]; rfl
   ·rw [HSL.out]; omega
   ·rw [HSL.out]; exact HRW.out
  ·intro nm va vl vc w6 cnt1 hsz hlk hok hMt hrg1 hlt1 hg1 hs1 hen
   rw [mapG_at] at hMt
   have hnm : nm.size ≤ 1000000 := HSM.out nm (by rw [hMt]; rfl)
   have HGN : Hid ((G nm).isSome = true) := zh (by rw [hMt]; rfl)
   have HRG6 := zh hrg1
   have HB6 : Hid (Below w.heap.size w w6) := zh (hbw.out.grown hg1 hbw.out.size (fun j hj => by cases hj; exact Nat.le_refl _))
   have HZ6 : Hid (w.heap.size + 1 ≤ w6.heap.size) := zh (by rw [hs1]; exact hzw.out)
   have HR6 : Hid (w6.ownsRow (w.heap.size + 1) 9 1 (.slice A5 out.length c5) out.length (out.map .string)) := zh (owns_kept hrow.out (Kept.grown (S := fun q => q = w.heap.size) (Kept.refl _ wr) hg1 (fun j hj => Or.inl (Option.some.inj hj).symm)) (fun g hg e => by have := (hrow.out.lt _ hg).1; omega))
   have HLT : Hid (w6.rangeLeft mb w.heap.size < wr.rangeLeft mb w.heap.size) := zh (by rw [hrg1.left_eq, hrg.out.left_eq]; exact hlt1)
   have hrb : w.heap.size < w6.heap.size := by have := HZ6.out; omega
   have HAT := zh (at_any cb F es nm t w6 (HC.out.below HB6.out) hnm hb)
   have HLK := zh hlk
   have hcn : out.length + 1 ≤ es.length := by omega
   have hcn1 : out.length + 1 + cnt1 ≤ es.length := by omega
   have HNO : Hid (whB es t (fun x => true) nm = false → (out.Nodup ∧ ∀ n, n ∈ out ↔ ((G n).isSome = true ∧ (left (.string n.data.toList) && !(Lit.string n.data.toList).sameKey (.string nm.data.toList)) = false ∧ whB es t (fun x => true) n = true))) := zh (fun hf => ⟨hout.out.1, fun n => by
    rw [hout.out.2 n, str_same]
    constructor
    ·rintro ⟨h1, h2, h3⟩; exact ⟨h1, by rw [h2]; rfl, h3⟩
    ·rintro ⟨h1, h2, h3⟩
     by_cases e : n = nm
     ·subst e; rw [hf] at h3; cases h3
     ·exact ⟨h1, by simpa [e] using h2, h3⟩⟩)
   have HYES : Hid (whB es t (fun x => true) nm = true → ((out ++ [nm]).Nodup ∧ ∀ n, n ∈ out ++ [nm] ↔ ((G n).isSome = true ∧ (left (.string n.data.toList) && !(Lit.string n.data.toList).sameKey (.string nm.data.toList)) = false ∧ whB es t (fun x => true) n = true))) := zh (fun hf => by
    have hni : nm ∉ out := fun hi => by
     have := ((hout.out.2 nm).1 hi).2.1
     rw [HLK.out] at this
     cases this
    refine ⟨?_, fun n => ?_⟩
    ·rw [List.nodup_append]
     refine ⟨hout.out.1, List.pairwise_singleton _ _, ?_⟩
     intro a ha b hb e
     obtain rfl : b = nm := by simpa using hb
     subst e
     exact hni ha
    ·rw [List.mem_append, hout.out.2 n, str_same]
     constructor
     ·rintro (⟨h1, h2, h3⟩ | h1)
      ·exact ⟨h1, by rw [h2]; rfl, h3⟩
      ·obtain rfl : n = nm := by simpa using h1
       exact ⟨HGN.out, by simp, hf⟩
     ·rintro ⟨h1, h2, h3⟩
      by_cases e : n = nm
      ·subst e; exact Or.inr (by simp)
      ·exact Or.inl ⟨h1, by simpa [e] using h2, h3⟩)
   clear hrg1 hMt hlk hok hg1 hs1 hlt1 hsz
   have HWB : Hid (whB es t (fun x => true) nm = match atP es nm t with | some x => x.listed && (true) | none => false) := zh rfl
   have HTG : Hid (∀ x, atP es nm t = some x → x.tags.size ≤ 1000000) := zh (fun x hx => at_tags HSH.out hx)
   generalize atP es nm t = y at *
   unfold toldP itA at HAT
   go_wp2_with fail
   refine HAT.out.mono ?_
   rintro e w7 ⟨rfl, hb7⟩
   have HB7 : Hid (Below w.heap.size w w7) := zh (HB6.out.trans (hb7.mono HB6.out.size))
   have HK7 : Hid (Kept (fun _ => False) w6 w7) := zh (below_kept hb7 (Nat.le_refl _))
   have HR7 : Hid (w7.ownsRow (w.heap.size + 1) 9 1 (.slice A5 out.length c5) out.length (out.map .string)) := zh (owns_kept HR6.out HK7.out (fun _ _ h => h))
   have HRG7 := zh (HRG6.out.kept HK7.out (fun h => h) (fun h => h))
   have HLT7 : Hid (w7.rangeLeft mb w.heap.size < wr.rangeLeft mb w.heap.size) := zh (by rw [HRG7.out.left_eq, ← HRG6.out.left_eq]; exact HLT.out)
   have HZ7 : Hid (w.heap.size + 1 ≤ w7.heap.size) := zh (Nat.le_trans HZ6.out hb7.size)
   clear HAT hb7 HR6 HRG6 HLT HB6 HK7 HZ6 hen
   cases y with
   | none =>
    dsimp only [Option.getD_none, Option.isSome_none, it0]
    go_wp2_with fail
    go_roundw
    case rel => exact ⟨_, cnt1, out, zh (HRG7.out.alloc _), by omega, zh (HNO.out HWB.out), zh (HR7.out.alloc _), zh (HB7.out.alloc HB7.out.size _), zh (by have := HZ7.out; simp; omega)⟩
    case measure => rw [(HRG7.out.alloc _).left_eq, ← HRG7.out.left_eq]; exact HLT7.out
   | some x =>
    dsimp only [Option.getD_some, Option.isSome_some]
    have htg := HTG.out x rfl
    dsimp only at HWB
    cases hli : x.listed
    ·have HF : Hid (whB es t (fun x => true) nm = false) := zh (by rw [HWB.out, hli]; rfl)
     clear hli
     go_wp2_with fail
     go_roundw
     case rel => exact ⟨_, cnt1, out, zh (HRG7.out.alloc _), by omega, zh (HNO.out HF.out), zh (HR7.out.alloc _), zh (HB7.out.alloc HB7.out.size _), zh (by have := HZ7.out; simp; omega)⟩
     case measure => rw [(HRG7.out.alloc _).left_eq, ← HRG7.out.left_eq]; exact HLT7.out
    ·have HF : Hid (whB es t (fun x => true) nm = (true)) := zh (by rw [HWB.out, hli]; rfl)
     obtain ⟨w8, hw8⟩ : ∃ w8, w7.alloc (.cells #[.string x.name, .string x.maker, .string x.tags, .int .i64 x.stock, .int .i64 x.price, .int .i64 x.born, .bool true] 36) = w8 := ⟨_, rfl⟩
     have b8 : Blk w8 w7.heap.size 36 #[.string x.name, .string x.maker, .string x.tags, .int .i64 x.stock, .int .i64 x.price, .int .i64 x.born, .bool true] := by rw [← hw8]; exact Blk.new _ _ _
     have HB8 : Hid (Below w.heap.size w w8) := zh (by rw [← hw8]; exact HB7.out.alloc HB7.out.size _)
     have HR8 : Hid (w8.ownsRow (w.heap.size + 1) 9 1 (.slice A5 out.length c5) out.length (out.map .string)) := zh (by rw [← hw8]; exact HR7.out.alloc _)
     have HRG8 := zh (HRG7.out.alloc (.cells #[.string x.name, .string x.maker, .string x.tags, .int .i64 x.stock, .int .i64 x.price, .int .i64 x.born, .bool true] 36))
     rw [hw8] at HRG8
     have HLT8 : Hid (w8.rangeLeft mb w.heap.size < wr.rangeLeft mb w.heap.size) := zh (by rw [HRG8.out.left_eq, ← HRG7.out.left_eq]; exact HLT7.out)
     have HZ8 : Hid (w.heap.size + 1 ≤ w8.heap.size) := zh (by rw [← hw8]; have := HZ7.out; simp; omega)
     have j0 : w8.cell? ⟨w7.heap.size, 0, none⟩ = some (.string x.name) := b8.cell 0
     have j1 : w8.cell? ⟨w7.heap.size, 1, none⟩ = some (.string x.maker) := b8.cell 1
     have j2 : w8.cell? ⟨w7.heap.size, 2, none⟩ = some (.string x.tags) := b8.cell 2
     have j3 : w8.cell? ⟨w7.heap.size, 3, none⟩ = some (.int .i64 x.stock) := b8.cell 3
     have j4 : w8.cell? ⟨w7.heap.size, 4, none⟩ = some (.int .i64 x.price) := b8.cell 4
     have j5 : w8.cell? ⟨w7.heap.size, 5, none⟩ = some (.int .i64 x.born) := b8.cell 5
     have j6 : w8.cell? ⟨w7.heap.size, 6, none⟩ = some (.bool true) := b8.cell 6
     have HHO := zh (names1_any x w8)
     rw [hli] at HHO
     clear hli b8 HR7 HRG7 HLT7 HB7 HZ7
     go_wp2_with fail
     refine HHO.out.mono ?_
     rintro e w9 ⟨rfl, hb9⟩
     have HK9 : Hid (Kept (fun _ => False) w8 w9) := zh (below_kept hb9 (Nat.le_refl _))
     have HB9 : Hid (Below w.heap.size w w9) := zh (HB8.out.trans (hb9.mono HB8.out.size))
     have HR9 : Hid (w9.ownsRow (w.heap.size + 1) 9 1 (.slice A5 out.length c5) out.length (out.map .string)) := zh (owns_kept HR8.out HK9.out (fun _ _ h => h))
     have HRG9 := zh (HRG8.out.kept HK9.out (fun h => h) (fun h => h))
     have HLT9 : Hid (w9.rangeLeft mb w.heap.size < wr.rangeLeft mb w.heap.size) := zh (by rw [HRG9.out.left_eq, ← HRG8.out.left_eq]; exact HLT8.out)
     have HZ9 : Hid (w.heap.size + 1 ≤ w9.heap.size) := zh (Nat.le_trans HZ8.out hb9.size)
     have hmb9 : mb < w9.heap.size := by have := HZ9.out; omega
     clear hb9 HHO HR8 HRG8 HLT8 HB8 HK9 HZ8 hw8
     ·go_wp2_with (first
       | (at_builtin; refine wpList_append_row _ rfl _ _ 50 rfl (w.heap.size + 1) 9 i0 _ 1 16 Tryz.underlying50 hi0 hz0 hz1 hz2 rfl (by omega) (.slice A5 out.length c5) out.length _ rfl (HR9.out.alloc _) (w9.heap.size + 1) (some ⟨w9.heap.size, 0, none⟩) 1 1 [.string nm] rfl (one_str w9 nm _) (fun h => by cases h) (fun u hu => by simp at hu; subst hu; rfl) (by unfold maxLen; omega) (by omega) (by have := HZ9.out; simp; omega) ?_; intro v10 w10 ho10 hg10 hv10))
      have HNM : Hid (some mb ≠ (Value.slice A5 out.length c5).ownBlock) := zh (fun e => by have := (HR9.out.lt _ e.symm).1; omega)
      have HNR : Hid (some w.heap.size ≠ (Value.slice A5 out.length c5).ownBlock) := zh (fun e => by have := (HR9.out.lt _ e.symm).1; omega)
      have HRG10 := zh ((HRG9.out.alloc (.cells #[.string nm] 9)).grown hg10 HNM.out HNR.out)
      go_roundw
      case rel =>
       refine ⟨_, cnt1, out ++ [nm], HRG10, by simp; omega, zh (HYES.out HF.out), zh ?_, zh ((HB9.out.alloc HB9.out.size _).grown hg10 (by have := HZ9.out; simp; omega) (fun j hj => by have := (HR9.out.lt _ hj).1; omega)), zh (by have := HZ9.out; have := hg10.size; simp at this; omega)⟩
       rw [List.map_append, List.length_append]
       exact ho10
      case measure => rw [HRG10.out.left_eq, ← HRG9.out.left_eq]; exact HLT9.out
set_option maxHeartbeats 1000000 in
set_option maxRecDepth 100000 in
theorem names_any (cb : Nat) (F : Nat → Prop) (es : List Ev) (t : Int) (w : World) (h : CatAt w cb F es) (hb : es.length ≤ 1000000) :
  Calls Tryz.prog 31 #[.pointer (some ⟨cb, 0, none⟩), .int .i64 t] w fun e w' => ∃ A c ks, e = .returned (.slice A ks.length c) ∧ IsNames (whB es t (fun x => true)) ks ∧ ks.length ≤ es.length ∧ RowIn w' w'.heap.size 1 A ks.length (ks.map .string) ∧ Below w.heap.size w w' := by
 have HW := zh (which_names cb F es t w h hb)
 clear h
 go_enter Tryz.func31, Tryz.ntmps31
 go_wp2_with fail
 refine HW.out.mono ?_
 rintro e w1 ⟨A, c, ks, rfl, hi, hkl, hr, hb1⟩
 have HI := zh hi
 have HR := zh hr
 clear hi hr HW
 go_wp2_with fail
 go_ret
 exact ⟨A, c, ks, rfl, HI.out, hkl, HR.out, hb1⟩
end Go.Proofs.YthdmpcnnbminlaaGreatDoor.Ct

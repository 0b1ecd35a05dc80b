/- slices.Contains of strings; the closures of Names, ByMaker and ByTag. which of the program, with each of its tests; Names, ByMaker, ByTag. The order of events; which lists are taken whole; what a part of the events makes. Plain. Things compared; lists of events that are handed in. -/
import Derived.Test.YtdcinodbgbkobaaGreatDoorGd
import Derived.Deep.RegionHeld3
namespace Go.Proofs.YtdcinodbgbkobaaGreatDoor
section
open Go.Shelf Go.RowKit Go.Maps
set_option linter.unusedVariables false

theorem beq_list (a b : ByteArray) : (a.toList == b.toList) = true ↔ a = b := by
  rw [beq_iff_eq, Lib.toList_data, Lib.toList_data]
  constructor
  · intro h
    exact ba_eq h
  · rintro rfl; rfl
theorem str_eqB (x y : ByteArray) : (x.toList == y.toList) = decide (x = y) := by
  by_cases h : x = y
  · subst h; simp
  · rw [Bool.eq_false_iff.2 (fun e => h ((beq_list x y).1 e))]; simp [h]

/-- Is it among them? -/
def memB (x : ByteArray) (l : List ByteArray) : Bool := l.any fun y => decide (y = x)
theorem memB_iff (x : ByteArray) (l : List ByteArray) : memB x l = true ↔ x ∈ l := by
  unfold memB
  rw [List.any_eq_true]
  constructor
  · rintro ⟨y, hy, h⟩
    obtain rfl := of_decide_eq_true h
    exact hy
  · intro h; exact ⟨x, h, by simp⟩



theorem names1_any (x : It) (w : World) : Calls Tryz.prog 31 #[.agg #[.string x.name, .string x.maker, .string x.tags, .int .i64 x.stock, .int .i64 x.price, .int .i64 x.born, .bool x.listed]] w fun e w' => e = .returned (.bool true) ∧ Below w.heap.size w w' := by
  go_enter Tryz.func31, Tryz.ntmps31
  go_wp2_with fail
  go_ret
  exact ⟨rfl, (Below.refl _ _).alloc (Nat.le_refl _) _⟩


/-- The tags of a thing. -/
def tagsOf (t : ByteArray) : List ByteArray := evTags (⟨#[59]⟩ ++ t)
theorem semi_size (t : ByteArray) : ((⟨#[59]⟩ : ByteArray) ++ t).size = t.size + 1 := by
  rw [ByteArray.size_append]
  show 1 + t.size = t.size + 1
  omega
theorem tags_few (t : ByteArray) : (tagsOf t).length ≤ t.size + 2 := by
  unfold tagsOf evTags
  split
  · simp
  · have h1 := Lib.splitB_length_le ⟨#[44]⟩ 0 (Lib.countB (restP (⟨#[59]⟩ ++ t)) ⟨#[44]⟩) (restP (⟨#[59]⟩ ++ t))
    have h2 := cut_le (⟨#[59]⟩ ++ t)
    rw [semi_size] at h2
    have h3 : Lib.countB (restP (⟨#[59]⟩ ++ t)) ⟨#[44]⟩ ≤ (restP (⟨#[59]⟩ ++ t)).size := Lib.countB_le ⟨#[44]⟩ (by decide) _ _ (Nat.le_refl _)
    unfold parts
    omega


end

section
open Go.Shelf Go.RowKit Go.Maps
set_option linter.unusedVariables false

/-- Is a thing listed as of a tick, and does a test hold of it? -/
def whB (es : List Ev) (t : Int) (p : It → Bool) (n : ByteArray) : Bool := match atP es n t with | some x => x.listed && p x | none => false
theorem row_ne {es : List Ev} {n : ByteArray} (h : rowOf es n ≠ []) : ∃ e ∈ es, e.item = n := by
  cases hf : ofN es n with
  | nil => exact absurd (by unfold rowOf; rw [hf]; rfl) h
  | cons e l =>
    have : e ∈ ofN es n := by rw [hf]; simp
    unfold ofN at this
    rw [List.mem_filter] at this
    exact ⟨e, this.1, of_decide_eq_true this.2⟩
theorem fold_tags (l : List Ev) (h : ∀ e ∈ l, EvSh e) : ∀ r : List St, (∀ s ∈ r, s.item.tags.size ≤ 1000000) → ∀ s ∈ l.foldl rowStep r, s.item.tags.size ≤ 1000000 := by
  induction l with
  | nil => intro r hr; exact hr
  | cons e l ih =>
    intro r hr
    rw [List.foldl_cons]
    refine ih (fun x hx => h x (List.mem_cons_of_mem _ hx)) _ (fun s hs => ?_)
    unfold rowStep at hs
    rcases List.mem_append.1 hs with hs | hs
    · exact hr s hs
    · obtain rfl : s = _ := by simpa using hs
      have h0 : (r.getLast?.getD (st0 e.item)).item.tags.size ≤ 1000000 := by
        cases hl : r.getLast? with
        | none => exact Nat.zero_le _
        | some y => exact hr y (List.mem_of_getLast? hl)
      have h1 := (h e (by simp)).2.2.2
      have h2 := cut_le e.text
      unfold stepSt
      split
      · show (restP e.text).size ≤ 1000000
        omega
      · split <;> exact h0
theorem at_tags {es : List Ev} (h : ∀ e ∈ es, EvSh e) {n : ByteArray} {t : Int} {x : It} (hx : atP es n t = some x) : x.tags.size ≤ 1000000 := by
  unfold atP at hx
  obtain ⟨s, hs, rfl⟩ := Option.map_eq_some_iff.1 hx
  have h1 : s ∈ rowOf es n := (List.takeWhile_sublist _).subset (List.mem_of_getLast? hs)
  exact fold_tags _ (fun e he => h e (List.mem_filter.1 he).1) [] (fun s hs => by cases hs) s h1
theorem mk_sl {v : Value} (h : okSl v = true) : ∃ x : Option Addr × Nat × Nat, v = .slice x.1 x.2.1 x.2.2 := by
  match v, h with
  | .slice a l c, _ => exact ⟨(a, l, c), rfl⟩
theorem str_info : (Tryz.prog.info? 9).map (fun i => (i.zero, i.size, i.bytes)) = some (some (.string ⟨#[]⟩), 1, 16) := by kernel_rfl
theorem one_str (w : World) (z : ByteArray) (t : TypeId) : RowIn (w.alloc (.cells #[.string z] t)) (w.heap.size + 1) 1 (some ⟨w.heap.size, 0, none⟩) 1 [.string z] := by
  refine ⟨rfl, Or.inr ⟨w.heap.size, 0, rfl, by omega, fun j u hu => ?_⟩⟩
  rw [(Blk.new w t _).cell]
  rw [← hu, Nat.zero_add]
  simp

theorem nil_cap {w : World} {base : Nat} {e : TypeId} {size n c : Nat} {A : Option Addr} {xs : List Value} (h : w.ownsRow base e size (.slice A n c) n xs) : A = none → c = 0 := by
  intro hA
  rcases h.2 with ⟨h1, _⟩ | ⟨g, cap, cur, h1, _⟩
  · injection h1
  · injection h1 with h1; rw [h1] at hA; cases hA
set_option maxHeartbeats 2000000 in
set_option maxRecDepth 100000 in
theorem which_names (cb : Nat) (F : Nat → Prop) (es : List Ev) (t : Int) (w : World) (h : CatAt w cb F es) (hb : es.length ≤ 1000000) :
    Calls Tryz.prog 30 #[.pointer (some ⟨cb, 0, none⟩), .int .i64 t, .func (Fn.func 31) #[] #[]] w fun e w' => ∃ A c ks, e = .returned (.slice A ks.length c) ∧ IsNames (whB es t (fun x => true)) ks ∧ ks.length ≤ es.length ∧ (A = none → c = 0) ∧ RowIn w' w'.heap.size 1 A ks.length (ks.map .string) ∧ Below w.heap.size w w' := by
  obtain ⟨i0, hi0, hz0, hz1, hz2⟩ := info_parts str_info
  have HC := Lib.hid h
  have HSH := Lib.hid h.sh
  obtain ⟨mb, G, last, h⟩ := h
  have c9 : w.cell? ⟨cb, 9, none⟩ = some (.map (some mb)) := h.blk.cell 9
  have HM := Lib.hid h.map
  have HSM : Hid (∀ n, (G n).isSome = true → n.size ≤ 1000000) := Lib.hid (fun n hn => by
    by_cases hr : rowOf es n = []
    · rw [h.none_ n hr] at hn; cases hn
    · obtain ⟨e, he, rfl⟩ := row_ne hr
      exact (h.sh e he).2.2.1)
  have HGS : Hid (∀ n x, atP es n t = some x → (G n).isSome = true) := Lib.hid (fun n x hx => by
    have hr : rowOf es n ≠ [] := fun e => by unfold atP at hx; rw [e] at hx; cases hx
    obtain ⟨g, cap, h1, _⟩ := h.some_ n hr
    rw [h1]; rfl)
  have hml : mb < w.heap.size := h.lt _ h.fm
  clear h
  go_enter Tryz.func30, Tryz.ntmps30
  go_wp2_with (first
    | (at_range; refine wpList_rangeM _ rfl _ 64 rfl 9 70 (string_keyed Tryz.underlying9) Tryz.underlying64 okSl mb es.length _ rfl HM.out ?_; intro w1 cnt0 hrg0 hg0 hs0 hc0)
    | fail)
  have HRG0 := Lib.hid hrg0
  have HB1 : Hid (Below w.heap.size w w1) := Lib.hid ((Below.refl _ _).grown hg0 (Nat.le_refl _) (fun j hj => by cases hj))
  have HZ1 := Lib.hid hs0
  clear hrg0 hg0 hs0 HM
  go_frame
  go_loopw [7] (fun s wr => ∃ (left : Lit → Bool) (cnt : Nat) (out : List ByteArray), Hid (MapGoes Tryz.prog 9 okSl wr mb w.heap.size es.length (mapG G) left cnt) ∧ out.length + cnt ≤ es.length ∧ Hid (out.Nodup ∧ ∀ n, n ∈ out ↔ ((G n).isSome = true ∧ left (.string n.data.toList) = false ∧ whB es t (fun x => true) n = true)) ∧ Hid (wr.ownsRow (w.heap.size + 1) 9 1 s out.length (out.map .string)) ∧ Hid (Below w.heap.size w wr) ∧ Hid (w.heap.size + 1 ≤ wr.heap.size)) (fun _ wr => wr.rangeLeft mb w.heap.size)
  case atStart => exact ⟨_, _, [], HRG0, by simpa using hc0, Lib.hid ⟨List.Pairwise.nil, fun n => ⟨fun h => (by cases h), fun h => (by
    obtain ⟨h1, h2, _⟩ := h
    rw [mapG_at] at h2
    rw [h1] at h2
    cases h2)⟩⟩, Lib.hid (own_nil _ _ _ _), HB1, Lib.hid (by rw [HZ1.out]; exact Nat.le_refl _)⟩
  case round =>
    obtain ⟨left, cnt, out, hrg, hcnt, hout, hrow, hbw, hzw⟩ := hrel
    obtain ⟨A5, c5, hr⟩ := own_shape hrow.out
    rw [hr] at hrow ⊢
    clear hr
    go_wp2_with (first
      | (at_next; refine wpList_nextS _ rfl _ rfl 9 Tryz.underlying9 okSl (fun x : Option Addr × Nat × Nat => .slice x.1 x.2.1 x.2.2) (fun v hv => mk_sl hv) mb w.heap.size es.length _ _ _ rfl hrg.out ?_ ?_)
      | fail)
    · intro _ hl
      have HL : Hid (∀ n, n ∈ out ↔ whB es t (fun x => true) n = true) := Lib.hid (fun n => by
        rw [hout.out.2 n]
        refine ⟨fun h => h.2.2, fun h => ⟨?_, hl _, h⟩⟩
        unfold whB at h
        cases ha : atP es n t with
        | none => rw [ha] at h; cases h
        | some x => exact HGS.out n x ha)
      have HSO := Lib.hid (sort_any wr (w.heap.size + 1) A5 out out.length c5 rfl hrow.out (by omega))
      have HIS := Lib.hid (sortN_is hout.out.1 HL.out)
      have HSL := Lib.hid (sortN_len out)
      have HNC := Lib.hid (nil_cap hrow.out)
      clear hl
      go_wp2_with fail
      refine HSO.out.mono ?_
      rintro e w9 ⟨rfl, hrw, hb9⟩
      have HRW := Lib.hid hrw
      have HB9 : Hid (Below w.heap.size w w9) := Lib.hid (hbw.out.trans (hb9.mono (by omega)))
      clear hrw hb9 HSO
      go_wp2_with fail
      go_ret
      refine ⟨A5, c5, sortN out, ?_, HIS.out, ?_, HNC.out, ?_, HB9.out⟩
      · rw [HSL.out]; rfl
      · rw [HSL.out]; omega
      · rw [HSL.out]; exact HRW.out
    · intro nm va vl vc w6 cnt1 hsz hlk hok hMt hrg1 hlt1 hg1 hs1 hen
      rw [mapG_at] at hMt
      have hnm : nm.size ≤ 1000000 := HSM.out nm (by rw [hMt]; rfl)
      have HGN : Hid ((G nm).isSome = true) := Lib.hid (by rw [hMt]; rfl)
      have HRG6 := Lib.hid hrg1
      have HB6 : Hid (Below w.heap.size w w6) := Lib.hid (hbw.out.grown hg1 hbw.out.size (fun j hj => by cases hj; exact Nat.le_refl _))
      have HZ6 : Hid (w.heap.size + 1 ≤ w6.heap.size) := Lib.hid (by rw [hs1]; exact hzw.out)
      have HR6 : Hid (w6.ownsRow (w.heap.size + 1) 9 1 (.slice A5 out.length c5) out.length (out.map .string)) := Lib.hid (owns_kept hrow.out (Kept.grown (S := fun q => q = w.heap.size) (Kept.refl _ wr) hg1 (fun j hj => Or.inl (Option.some.inj hj).symm)) (fun g hg e => by have := (hrow.out.lt _ hg).1; omega))
      have HLT : Hid (w6.rangeLeft mb w.heap.size < wr.rangeLeft mb w.heap.size) := Lib.hid (by rw [hrg1.left_eq, hrg.out.left_eq]; exact hlt1)
      have hrb : w.heap.size < w6.heap.size := by have := HZ6.out; omega
      have HAT := Lib.hid (at_any cb F es nm t w6 (HC.out.below HB6.out) hnm hb)
      have HLK := Lib.hid hlk
      have hcn : out.length + 1 ≤ es.length := by omega
      have hcn1 : out.length + 1 + cnt1 ≤ es.length := by omega
      have HNO : Hid (whB es t (fun x => true) nm = false → (out.Nodup ∧ ∀ n, n ∈ out ↔ ((G n).isSome = true ∧ (left (.string n.data.toList) && !(Lit.string n.data.toList).sameKey (.string nm.data.toList)) = false ∧ whB es t (fun x => true) n = true))) := Lib.hid (fun hf => ⟨hout.out.1, fun n => by
        rw [hout.out.2 n, str_same]
        constructor
        · rintro ⟨h1, h2, h3⟩; exact ⟨h1, by rw [h2]; rfl, h3⟩
        · rintro ⟨h1, h2, h3⟩
          by_cases e : n = nm
          · subst e; rw [hf] at h3; cases h3
          · exact ⟨h1, by simpa [e] using h2, h3⟩⟩)
      have HYES : Hid (whB es t (fun x => true) nm = true → ((out ++ [nm]).Nodup ∧ ∀ n, n ∈ out ++ [nm] ↔ ((G n).isSome = true ∧ (left (.string n.data.toList) && !(Lit.string n.data.toList).sameKey (.string nm.data.toList)) = false ∧ whB es t (fun x => true) n = true))) := Lib.hid (fun hf => by
        have hni : nm ∉ out := fun hi => by
          have := ((hout.out.2 nm).1 hi).2.1
          rw [HLK.out] at this
          cases this
        refine ⟨?_, fun n => ?_⟩
        · rw [List.nodup_append]
          refine ⟨hout.out.1, List.pairwise_singleton _ _, ?_⟩
          intro a ha b hb e
          obtain rfl : b = nm := by simpa using hb
          subst e
          exact hni ha
        · rw [List.mem_append, hout.out.2 n, str_same]
          constructor
          · rintro (⟨h1, h2, h3⟩ | h1)
            · exact ⟨h1, by rw [h2]; rfl, h3⟩
            · obtain rfl : n = nm := by simpa using h1
              exact ⟨HGN.out, by simp, hf⟩
          · rintro ⟨h1, h2, h3⟩
            by_cases e : n = nm
            · subst e; exact Or.inr (by simp)
            · exact Or.inl ⟨h1, by simpa [e] using h2, h3⟩)
      clear hrg1 hMt hlk hok hg1 hs1 hlt1 hsz
      have HWB : Hid (whB es t (fun x => true) nm = match atP es nm t with | some x => x.listed && (true) | none => false) := Lib.hid rfl
      have HTG : Hid (∀ x, atP es nm t = some x → x.tags.size ≤ 1000000) := Lib.hid (fun x hx => at_tags HSH.out hx)
      generalize atP es nm t = y at *
      unfold toldP itA at HAT
      go_wp2_with fail
      refine HAT.out.mono ?_
      rintro e w7 ⟨rfl, hb7⟩
      have HB7 : Hid (Below w.heap.size w w7) := Lib.hid (HB6.out.trans (hb7.mono HB6.out.size))
      have HK7 : Hid (Kept (fun _ => False) w6 w7) := Lib.hid (below_kept hb7 (Nat.le_refl _))
      have HR7 : Hid (w7.ownsRow (w.heap.size + 1) 9 1 (.slice A5 out.length c5) out.length (out.map .string)) := Lib.hid (owns_kept HR6.out HK7.out (fun _ _ h => h))
      have HRG7 := Lib.hid (HRG6.out.kept HK7.out (fun h => h) (fun h => h))
      have HLT7 : Hid (w7.rangeLeft mb w.heap.size < wr.rangeLeft mb w.heap.size) := Lib.hid (by rw [HRG7.out.left_eq, ← HRG6.out.left_eq]; exact HLT.out)
      have HZ7 : Hid (w.heap.size + 1 ≤ w7.heap.size) := Lib.hid (Nat.le_trans HZ6.out hb7.size)
      clear HAT hb7 HR6 HRG6 HLT HB6 HK7 HZ6 hen
      cases y with
      | none =>
        dsimp only [Option.getD_none, Option.isSome_none, it0]
        go_wp2_with fail
        go_roundw
        case rel => exact ⟨_, cnt1, out, Lib.hid (HRG7.out.alloc _), by omega, Lib.hid (HNO.out HWB.out), Lib.hid (HR7.out.alloc _), Lib.hid (HB7.out.alloc HB7.out.size _), Lib.hid (by have := HZ7.out; simp; omega)⟩
        case measure => rw [(HRG7.out.alloc _).left_eq, ← HRG7.out.left_eq]; exact HLT7.out
      | some x =>
        dsimp only [Option.getD_some, Option.isSome_some]
        have htg := HTG.out x rfl
        dsimp only at HWB
        cases hli : x.listed
        · have HF : Hid (whB es t (fun x => true) nm = false) := Lib.hid (by rw [HWB.out, hli]; rfl)
          clear hli
          go_wp2_with fail
          go_roundw
          case rel => exact ⟨_, cnt1, out, Lib.hid (HRG7.out.alloc _), by omega, Lib.hid (HNO.out HF.out), Lib.hid (HR7.out.alloc _), Lib.hid (HB7.out.alloc HB7.out.size _), Lib.hid (by have := HZ7.out; simp; omega)⟩
          case measure => rw [(HRG7.out.alloc _).left_eq, ← HRG7.out.left_eq]; exact HLT7.out
        · have HF : Hid (whB es t (fun x => true) nm = (true)) := Lib.hid (by rw [HWB.out, hli]; rfl)
          obtain ⟨w8, hw8⟩ : ∃ w8, w7.alloc (.cells #[.string x.name, .string x.maker, .string x.tags, .int .i64 x.stock, .int .i64 x.price, .int .i64 x.born, .bool true] 47) = w8 := ⟨_, rfl⟩
          have b8 : Blk w8 w7.heap.size 47 #[.string x.name, .string x.maker, .string x.tags, .int .i64 x.stock, .int .i64 x.price, .int .i64 x.born, .bool true] := by rw [← hw8]; exact Blk.new _ _ _
          have HB8 : Hid (Below w.heap.size w w8) := Lib.hid (by rw [← hw8]; exact HB7.out.alloc HB7.out.size _)
          have HR8 : Hid (w8.ownsRow (w.heap.size + 1) 9 1 (.slice A5 out.length c5) out.length (out.map .string)) := Lib.hid (by rw [← hw8]; exact HR7.out.alloc _)
          have HRG8 := Lib.hid (HRG7.out.alloc (.cells #[.string x.name, .string x.maker, .string x.tags, .int .i64 x.stock, .int .i64 x.price, .int .i64 x.born, .bool true] 47))
          rw [hw8] at HRG8
          have HLT8 : Hid (w8.rangeLeft mb w.heap.size < wr.rangeLeft mb w.heap.size) := Lib.hid (by rw [HRG8.out.left_eq, ← HRG7.out.left_eq]; exact HLT7.out)
          have HZ8 : Hid (w.heap.size + 1 ≤ w8.heap.size) := Lib.hid (by rw [← hw8]; have := HZ7.out; simp; omega)
          have j0 : w8.cell? ⟨w7.heap.size, 0, none⟩ = some (.string x.name) := b8.cell 0
          have j1 : w8.cell? ⟨w7.heap.size, 1, none⟩ = some (.string x.maker) := b8.cell 1
          have j2 : w8.cell? ⟨w7.heap.size, 2, none⟩ = some (.string x.tags) := b8.cell 2
          have j3 : w8.cell? ⟨w7.heap.size, 3, none⟩ = some (.int .i64 x.stock) := b8.cell 3
          have j4 : w8.cell? ⟨w7.heap.size, 4, none⟩ = some (.int .i64 x.price) := b8.cell 4
          have j5 : w8.cell? ⟨w7.heap.size, 5, none⟩ = some (.int .i64 x.born) := b8.cell 5
          have j6 : w8.cell? ⟨w7.heap.size, 6, none⟩ = some (.bool true) := b8.cell 6
          have HHO := Lib.hid (names1_any x w8)
          rw [hli] at HHO
          clear hli b8 HR7 HRG7 HLT7 HB7 HZ7
          go_wp2_with fail
          refine HHO.out.mono ?_
          rintro e w9 ⟨rfl, hb9⟩
          have HK9 : Hid (Kept (fun _ => False) w8 w9) := Lib.hid (below_kept hb9 (Nat.le_refl _))
          have HB9 : Hid (Below w.heap.size w w9) := Lib.hid (HB8.out.trans (hb9.mono HB8.out.size))
          have HR9 : Hid (w9.ownsRow (w.heap.size + 1) 9 1 (.slice A5 out.length c5) out.length (out.map .string)) := Lib.hid (owns_kept HR8.out HK9.out (fun _ _ h => h))
          have HRG9 := Lib.hid (HRG8.out.kept HK9.out (fun h => h) (fun h => h))
          have HLT9 : Hid (w9.rangeLeft mb w.heap.size < wr.rangeLeft mb w.heap.size) := Lib.hid (by rw [HRG9.out.left_eq, ← HRG8.out.left_eq]; exact HLT8.out)
          have HZ9 : Hid (w.heap.size + 1 ≤ w9.heap.size) := Lib.hid (Nat.le_trans HZ8.out hb9.size)
          have hmb9 : mb < w9.heap.size := by have := HZ9.out; omega
          clear hb9 HHO HR8 HRG8 HLT8 HB8 HK9 HZ8 hw8
          · go_wp2_with (first
              | (at_builtin; refine wpList_append_row _ rfl _ _ 44 rfl (w.heap.size + 1) 9 i0 _ 1 16 Tryz.underlying44 hi0 hz0 hz1 hz2 rfl (by omega) (.slice A5 out.length c5) out.length _ rfl (HR9.out.alloc _) (w9.heap.size + 1) (some ⟨w9.heap.size, 0, none⟩) 1 1 [.string nm] rfl (one_str w9 nm _) (fun h => by cases h) (fun u hu => by simp at hu; subst hu; rfl) (by unfold maxLen; omega) (by omega) (by have := HZ9.out; simp; omega) ?_; intro v10 w10 ho10 hg10 hv10))
            have HNM : Hid (some mb ≠ (Value.slice A5 out.length c5).ownBlock) := Lib.hid (fun e => by have := (HR9.out.lt _ e.symm).1; omega)
            have HNR : Hid (some w.heap.size ≠ (Value.slice A5 out.length c5).ownBlock) := Lib.hid (fun e => by have := (HR9.out.lt _ e.symm).1; omega)
            have HRG10 := Lib.hid ((HRG9.out.alloc (.cells #[.string nm] 9)).grown hg10 HNM.out HNR.out)
            go_roundw
            case rel =>
              refine ⟨_, cnt1, out ++ [nm], HRG10, by simp; omega, Lib.hid (HYES.out HF.out), Lib.hid ?_, Lib.hid ((HB9.out.alloc HB9.out.size _).grown hg10 (by have := HZ9.out; simp; omega) (fun j hj => by have := (HR9.out.lt _ hj).1; omega)), Lib.hid (by have := HZ9.out; have := hg10.size; simp at this; omega)⟩
              rw [List.map_append, List.length_append]
              exact ho10
            case measure => rw [HRG10.out.left_eq, ← HRG9.out.left_eq]; exact HLT9.out



set_option maxHeartbeats 1000000 in
set_option maxRecDepth 100000 in
theorem names_any (cb : Nat) (F : Nat → Prop) (es : List Ev) (t : Int) (w : World) (h : CatAt w cb F es) (hb : es.length ≤ 1000000) :
    Calls Tryz.prog 11 #[.pointer (some ⟨cb, 0, none⟩), .int .i64 t] w fun e w' => ∃ A c ks, e = .returned (.slice A ks.length c) ∧ IsNames (whB es t (fun x => true)) ks ∧ ks.length ≤ es.length ∧ (A = none → c = 0) ∧ RowIn w' w'.heap.size 1 A ks.length (ks.map .string) ∧ Below w.heap.size w w' := by
  have HW := Lib.hid (which_names cb F es t w h hb)
  clear h
  go_enter Tryz.func11, Tryz.ntmps11
  go_wp2_with fail
  refine HW.out.mono ?_
  rintro e w1 ⟨A, c, ks, rfl, hi, hkl, hnc, hr, hb1⟩
  have HI := Lib.hid hi
  have HNC := Lib.hid hnc
  have HR := Lib.hid hr
  clear hi hr hnc HW
  go_wp2_with fail
  go_ret
  exact ⟨A, c, ks, rfl, HI.out, hkl, HNC.out, HR.out, hb1⟩



end

section
set_option linter.unusedVariables false

theorem cmpL_lt : ∀ (a b : List UInt8), Lib.compareBytes a b = if a < b then -1 else if a = b then 0 else 1
  | [], [] => by simp [Lib.compareBytes]
  | [], _ :: _ => by simp [Lib.compareBytes]
  | _ :: _, [] => by simp [Lib.compareBytes]
  | x :: a, y :: b => by
    have ih := cmpL_lt a b
    unfold Lib.compareBytes
    by_cases h1 : x < y
    · rw [if_pos h1, if_pos (List.cons_lt_cons_iff.2 (Or.inl h1))]
    · by_cases h2 : y < x
      · have hxy : x ≠ y := fun e => by subst e; exact h1 h2
        rw [if_neg h1, if_pos h2, if_neg (fun h => by rcases List.cons_lt_cons_iff.1 h with h | ⟨h, _⟩; exact h1 h; exact hxy h), if_neg (fun h => hxy (List.cons.inj h).1)]
      · have hxy : x = y := UInt8.le_antisymm (UInt8.not_lt.1 h2) (UInt8.not_lt.1 h1)
        subst hxy
        rw [if_neg h1, if_neg h1, ih]
        simp
theorem cmpB_one (a b : ByteArray) : cmpB a b = 1 ↔ ltN b a := by
  unfold cmpB
  rw [cmpL_lt]
  by_cases h1 : a.data.toList < b.data.toList
  · rw [if_pos h1]
    exact ⟨fun h => (by cases h), fun h => absurd (List.lt_trans h1 h) (List.lt_irrefl _)⟩
  · rw [if_neg h1]
    by_cases h2 : a.data.toList = b.data.toList
    · rw [if_pos h2]
      exact ⟨fun h => (by cases h), fun h => by unfold ltN at h; rw [h2] at h; exact absurd h (List.lt_irrefl _)⟩
    · rw [if_neg h2]
      exact ⟨fun _ => ltN_of (a := a) (b := b) h1 (fun e => h2 (by rw [e])), fun _ => rfl⟩
theorem cmpB_zero (a b : ByteArray) : cmpB a b = 0 ↔ a = b := by
  unfold cmpB
  rw [cmpL_lt]
  by_cases h1 : a.data.toList < b.data.toList
  · rw [if_pos h1]
    exact ⟨fun h => (by cases h), fun h => by subst h; exact absurd h1 (List.lt_irrefl _)⟩
  · rw [if_neg h1]
    by_cases h2 : a.data.toList = b.data.toList
    · rw [if_pos h2]
      exact ⟨fun _ => ba_eq h2, fun _ => rfl⟩
    · rw [if_neg h2]
      exact ⟨fun h => (by cases h), fun h => absurd (by rw [h]) h2⟩
theorem cmpI_one (a b : Int) : cmpI a b = 1 ↔ b < a := by
  unfold cmpI
  split
  · constructor <;> intro h <;> omega
  · split <;> constructor <;> intro h <;> omega
theorem cmpI_zero (a b : Int) : cmpI a b = 0 ↔ a = b := by
  unfold cmpI
  split
  · constructor <;> intro h <;> omega
  · split <;> constructor <;> intro h <;> omega
/-- One stands ahead of the other. -/
def ltE (a b : Ev) : Prop := a.tick < b.tick ∨ (a.tick = b.tick ∧ (ltN a.src b.src ∨ (a.src = b.src ∧ a.num < b.num)))
theorem cmpE_one (x y : Ev) : cmpE x y = 1 ↔ ltE y x := by
  unfold cmpE ltE
  simp only [orL]
  by_cases h1 : cmpI x.tick y.tick = 0
  · rw [if_pos h1]
    have e1 := (cmpI_zero _ _).1 h1
    by_cases h2 : cmpB x.src y.src = 0
    · rw [if_pos h2]
      have e2 := (cmpB_zero _ _).1 h2
      by_cases h3 : cmpI x.num y.num = 0
      · rw [if_pos h3]
        have e3 := (cmpI_zero _ _).1 h3
        rw [e1, e2, e3]
        constructor
        · intro h; cases h
        · rintro (h | ⟨_, h | ⟨_, h⟩⟩)
          · omega
          · exact absurd h (ltN_irr _)
          · omega
      · rw [if_neg h3, cmpI_one, e1, e2]
        constructor
        · intro h; exact Or.inr ⟨rfl, Or.inr ⟨rfl, h⟩⟩
        · rintro (h | ⟨_, h | ⟨_, h⟩⟩)
          · omega
          · exact absurd h (ltN_irr _)
          · exact h
    · rw [if_neg h2, cmpB_one, e1]
      have hne : ¬ x.src = y.src := fun e => h2 ((cmpB_zero _ _).2 e)
      constructor
      · intro h; exact Or.inr ⟨rfl, Or.inl h⟩
      · rintro (h | ⟨_, h | ⟨h, _⟩⟩)
        · omega
        · exact h
        · exact absurd h.symm hne
  · rw [if_neg h1, cmpI_one]
    have hne : ¬ x.tick = y.tick := fun e => h1 ((cmpI_zero _ _).2 e)
    constructor
    · intro h; exact Or.inl h
    · rintro (h | ⟨h, _⟩)
      · exact h
      · exact absurd h.symm hne
theorem ltE_irr (a : Ev) : ¬ ltE a a := by
  rintro (h | ⟨_, h | ⟨_, h⟩⟩)
  · omega
  · exact ltN_irr _ h
  · omega
theorem ltE_trans {a b c : Ev} (h : ltE a b) (k : ltE b c) : ltE a c := by
  rcases h with h | ⟨h1, h⟩
  · rcases k with k | ⟨k1, _⟩
    · exact Or.inl (by omega)
    · exact Or.inl (by omega)
  · rcases k with k | ⟨k1, k⟩
    · exact Or.inl (by omega)
    · refine Or.inr ⟨by omega, ?_⟩
      rcases h with h | ⟨h2, h⟩
      · rcases k with k | ⟨k2, k⟩
        · exact Or.inl (ltN_trans h k)
        · exact Or.inl (by rw [← k2]; exact h)
      · rcases k with k | ⟨k2, k⟩
        · exact Or.inl (by rw [h2]; exact k)
        · exact Or.inr ⟨h2.trans k2, by omega⟩
theorem takes_iff (es : List Ev) (e : Ev) : takesB es e = true ↔ catB e = true ∧ ∀ l, es.getLast? = some l → ltE l e := by
  unfold takesB
  rw [Bool.and_eq_true]
  cases es.getLast? with
  | none => simp
  | some l => simp [cmpE_one]

theorem madeFrom_iff : ∀ (l es : List Ev), es.Pairwise ltE → (madeFrom es l = true ↔ (∀ e ∈ l, catB e = true) ∧ (es ++ l).Pairwise ltE)
  | [], es, hes => by simp [madeFrom, hes]
  | e :: l, es, hes => by
    unfold madeFrom
    rw [Bool.and_eq_true, takes_iff]
    constructor
    · rintro ⟨⟨h1, h2⟩, h3⟩
      have hes' : (es ++ [e]).Pairwise ltE := by
        rw [List.pairwise_append]
        refine ⟨hes, List.pairwise_singleton _ _, fun a ha b hb => ?_⟩
        obtain rfl : b = e := by simpa using hb
        cases hl : es.getLast? with
        | none => rw [List.getLast?_eq_none_iff] at hl; rw [hl] at ha; cases ha
        | some m =>
          have hm := h2 m hl
          obtain ⟨ys, rfl⟩ := List.getLast?_eq_some_iff.1 hl
          rcases List.mem_append.1 ha with h4 | h4
          · exact ltE_trans ((List.pairwise_append.1 hes).2.2 a h4 m (by simp)) hm
          · obtain rfl : a = m := by simpa using h4
            exact hm
      have h4 := (madeFrom_iff l (es ++ [e]) hes').1 h3
      refine ⟨fun x hx => ?_, by simpa using h4.2⟩
      rcases List.mem_cons.1 hx with rfl | hx
      · exact h1
      · exact h4.1 x hx
    · rintro ⟨h1, h2⟩
      have h3 : ((es ++ [e]) ++ l).Pairwise ltE := by simpa using h2
      have hes' := (List.pairwise_append.1 h3).1
      refine ⟨⟨h1 e (by simp), fun m hm => ?_⟩, (madeFrom_iff l (es ++ [e]) hes').2 ⟨fun x hx => h1 x (List.mem_cons_of_mem _ hx), h3⟩⟩
      exact (List.pairwise_append.1 hes').2.2 m (List.mem_of_getLast? hm) e (by simp)
theorem made_iff (l : List Ev) : madeB l = true ↔ (∀ e ∈ l, catB e = true) ∧ l.Pairwise ltE := by
  unfold madeB
  rw [madeFrom_iff l [] List.Pairwise.nil]
  rfl
theorem made_sub {l l' : List Ev} (h : madeB l = true) (hs : List.Sublist l' l) : madeB l' = true := by
  rw [made_iff] at h ⊢
  exact ⟨fun e he => h.1 e (hs.subset he), h.2.sublist hs⟩

/-- The events that are taken, one by one. -/
def takeAll : List Ev → List Ev → List Ev
  | es, [] => es
  | es, e :: l => takeAll (aftP es e) l
theorem takeAll_snoc : ∀ (l es : List Ev) (e : Ev), takeAll es (l ++ [e]) = aftP (takeAll es l) e
  | [], es, e => rfl
  | x :: l, es, e => takeAll_snoc l (aftP es x) e
theorem takeAll_len : ∀ (l es : List Ev), (takeAll es l).length ≤ es.length + l.length
  | [], es => by simp [takeAll]
  | x :: l, es => by
    have := takeAll_len l (aftP es x)
    unfold takeAll
    have h2 : (aftP es x).length ≤ es.length + 1 := by unfold aftP; split <;> simp
    simp
    omega
theorem refused_stays {es : List Ev} {e x : Ev} (h : takesB es e = false) : takesB (aftP es x) e = false := by
  unfold aftP
  cases hx : takesB es x with
  | false => simpa using h
  | true =>
    rw [if_pos rfl]
    cases hq : takesB (es ++ [x]) e with
    | false => rfl
    | true =>
      rw [takes_iff] at hq hx
      have h1 := hq.2 x (by rw [List.getLast?_concat])
      have h2 : takesB es e = true := by
        rw [takes_iff]
        exact ⟨hq.1, fun l hl => ltE_trans (hx.2 l hl) h1⟩
      rw [h] at h2
      cases h2
theorem taken_stays (es : List Ev) (e : Ev) : takesB (aftP es e) e = false := by
  cases hx : takesB es e with
  | false => unfold aftP; rw [hx]; simpa using hx
  | true =>
    unfold aftP
    rw [hx, if_pos rfl]
    cases hq : takesB (es ++ [e]) e with
    | false => rfl
    | true =>
      rw [takes_iff] at hq
      exact absurd (hq.2 e (by rw [List.getLast?_concat])) (ltE_irr _)
theorem all_refused : ∀ (l es : List Ev), (∀ e, takesB es e = false → takesB (takeAll es l) e = false) ∧ ∀ e ∈ l, takesB (takeAll es l) e = false
  | [], es => ⟨fun _ h => h, fun e he => by cases he⟩
  | x :: l, es => by
    obtain ⟨h1, h2⟩ := all_refused l (aftP es x)
    refine ⟨fun e he => h1 e (refused_stays he), fun e he => ?_⟩
    rcases List.mem_cons.1 he with rfl | he
    · exact h1 e (taken_stays es e)
    · exact h2 e he

/-! ### what a part makes -/
theorem ofN_filter (l : List Ev) (n : ByteArray) : ofN (l.filter fun e => decide (e.item = n)) n = ofN l n := by
  unfold ofN
  rw [List.filter_filter]
  congr 1
  funext e
  simp
theorem at_own (l : List Ev) (n : ByteArray) (t : Int) : atP (l.filter fun e => decide (e.item = n)) n t = atP l n t := by
  unfold atP rowOf
  rw [ofN_filter]
theorem chg_own (l : List Ev) (n : ByteArray) : chgP (l.filter fun e => decide (e.item = n)) n = chgP l n := by
  unfold chgP rowOf
  rw [ofN_filter]
theorem ofN_app (a b : List Ev) (n : ByteArray) : ofN (a ++ b) n = ofN a n ++ ofN b n := by
  unfold ofN; rw [List.filter_append]
theorem foldl_pre (l : List Ev) : ∀ r : List St, ∃ s, l.foldl rowStep r = r ++ s ∧ s.map (·.tick) = l.map (·.tick) := by
  induction l with
  | nil => intro r; exact ⟨[], by simp, rfl⟩
  | cons e l ih =>
    intro r
    rw [List.foldl_cons]
    obtain ⟨s, h1, h2⟩ := ih (rowStep r e)
    refine ⟨stepSt (r.getLast?.getD (st0 e.item)) e :: s, by rw [h1]; unfold rowStep; simp, by simp [h2, stepSt_tick]⟩
theorem upto_app {r s : List St} {t : Int} (h1 : ∀ x ∈ r, x.tick ≤ t) (h2 : ∀ x ∈ s, t < x.tick) : uptoP (r ++ s) t = r := by
  induction r with
  | nil =>
    cases s with
    | nil => rfl
    | cons x s =>
      have := h2 x (by simp)
      simp only [uptoP, List.nil_append]
      rw [List.takeWhile_cons_of_neg (by simpa using this)]
  | cons x r ih =>
    have h0 := h1 x (by simp)
    simp only [uptoP, List.cons_append]
    rw [List.takeWhile_cons_of_pos (by simpa using h0)]
    have := ih (fun y hy => h1 y (List.mem_cons_of_mem _ hy))
    simp only [uptoP] at this
    rw [this]
theorem rise_split {l : List Ev} (h : Rising l) (t : Int) : ∃ b, l = (l.filter fun e => decide (e.tick ≤ t)) ++ b ∧ ∀ e ∈ b, t < e.tick := by
  induction l with
  | nil => exact ⟨[], rfl, fun e he => by cases he⟩
  | cons e l ih =>
    have hp := List.pairwise_cons.1 h
    by_cases he : e.tick ≤ t
    · obtain ⟨b, h1, h2⟩ := ih hp.2
      refine ⟨b, ?_, h2⟩
      rw [List.filter_cons_of_pos (by simpa using he), List.cons_append, ← h1]
    · refine ⟨e :: l, ?_, fun x hx => ?_⟩
      · have : (e :: l).filter (fun e => decide (e.tick ≤ t)) = [] := by
          rw [List.filter_eq_nil_iff]
          intro x hx
          rcases List.mem_cons.1 hx with rfl | hx
          · simpa using he
          · have := hp.1 x hx
            simp; omega
        rw [this]; rfl
      · rcases List.mem_cons.1 hx with rfl | hx
        · omega
        · have := hp.1 x hx
          omega
theorem row_in {es : List Ev} {n : ByteArray} {s : St} (h : s ∈ rowOf es n) : ∃ e ∈ es, e.tick = s.tick := by
  have h1 : s.tick ∈ (rowOf es n).map (·.tick) := List.mem_map.2 ⟨s, h, rfl⟩
  rw [rowOf_ticks] at h1
  obtain ⟨e, he, h2⟩ := List.mem_map.1 h1
  exact ⟨e, (List.mem_filter.1 he).1, h2⟩
/-- As of a tick just the events up to it play a part. -/
theorem at_ahead {l : List Ev} (h : Rising l) (n : ByteArray) (t : Int) : atP l n t = ((rowOf (l.filter fun e => decide (e.tick ≤ t)) n).getLast?).map (·.item) := by
  obtain ⟨b, h1, h2⟩ := rise_split h t
  generalize hf : (l.filter fun e => decide (e.tick ≤ t)) = a at *
  have ha : ∀ e ∈ a, e.tick ≤ t := fun e he => by rw [← hf] at he; simpa using (List.mem_filter.1 he).2
  unfold atP
  congr 1
  rw [h1]
  unfold rowOf
  rw [ofN_app, List.foldl_append]
  obtain ⟨s, h3, h4⟩ := foldl_pre (ofN b n) ((ofN a n).foldl rowStep [])
  rw [h3, upto_app]
  · intro x hx
    obtain ⟨e, he, h5⟩ := row_in (es := a) (n := n) hx
    rw [← h5]; exact ha e he
  · intro x hx
    have h5 : x.tick ∈ s.map (·.tick) := List.mem_map.2 ⟨x, hx, rfl⟩
    rw [h4] at h5
    obtain ⟨e, he, h6⟩ := List.mem_map.1 h5
    rw [← h6]
    exact h2 e (List.mem_filter.1 he).1
theorem at_all {l : List Ev} {t : Int} (h : ∀ e ∈ l, e.tick ≤ t) (n : ByteArray) : atP l n t = ((rowOf l n).getLast?).map (·.item) := by
  unfold atP
  congr 1
  have := upto_app (r := rowOf l n) (s := []) (t := t) (fun x hx => by
    obtain ⟨e, he, h5⟩ := row_in hx
    rw [← h5]; exact h e he) (fun x hx => by cases hx)
  rw [List.append_nil] at this
  rw [this]
theorem cat_tick {e : Ev} (h : catB e = true) : e.tick ≤ 1099511627776 := by
  unfold catB at h
  rw [Bool.and_eq_true] at h
  have h1 := h.1
  unfold mayB at h1
  simp only [Bool.and_eq_true, decide_eq_true_eq] at h1
  exact h1.2.2.1.2

end

section
open Go.Shelf Go.RowKit Go.Maps
set_option linter.unusedVariables false

/-- The same thing? -/
def itB (x y : It) : Bool := decide (x.name = y.name) && (decide (x.maker = y.maker) && (decide (x.tags = y.tags) && (decide (x.stock = y.stock) && (decide (x.price = y.price) && (decide (x.born = y.born) && decide (x.listed = y.listed))))))
theorem itB_iff (x y : It) : itB x y = true ↔ x = y := by
  obtain ⟨a1, a2, a3, a4, a5, a6, a7⟩ := x
  obtain ⟨b1, b2, b3, b4, b5, b6, b7⟩ := y
  simp [itB]
theorem itB_rfl (x : It) : itB x x = true := (itB_iff x x).2 rfl
@[go_sem high] theorem eq_it (a1 a2 a3 : ByteArray) (a4 a5 a6 : Int) (a7 : Bool) (b1 b2 b3 : ByteArray) (b4 b5 b6 : Int) (b7 : Bool) (w : World) :
    (Op.equalIn 10000 47 (.agg #[.string a1, .string a2, .string a3, .int .i64 a4, .int .i64 a5, .int .i64 a6, .bool a7]) (.agg #[.string b1, .string b2, .string b3, .int .i64 b4, .int .i64 b5, .int .i64 b6, .bool b7])).run Tryz.prog w = .ok (itB ⟨a1, a2, a3, a4, a5, a6, a7⟩ ⟨b1, b2, b3, b4, b5, b6, b7⟩) w := by
  by_cases h1 : a1 = b1
  rotate_left
  · simp [go_sem, str_eqB, itB, h1]
  by_cases h2 : a2 = b2
  rotate_left
  · simp [go_sem, str_eqB, itB, h1, h2]
  by_cases h3 : a3 = b3
  rotate_left
  · simp [go_sem, str_eqB, itB, h1, h2, h3]
  by_cases h4 : a4 = b4
  rotate_left
  · simp [go_sem, itB, h1, h2, h3, h4]
  by_cases h5 : a5 = b5
  rotate_left
  · simp [go_sem, itB, h1, h2, h3, h4, h5]
  by_cases h6 : a6 = b6
  rotate_left
  · simp [go_sem, itB, h1, h2, h3, h4, h5, h6]
  by_cases h7 : a7 = b7
  rotate_left
  · simp [go_sem, itB, h1, h2, h3, h4, h5, h6, h7]
  simp [go_sem, itB, h1, h2, h3, h4, h5, h6, h7]

/-- A list of events that was handed in. -/
def EvArg (w : World) (A : Option Addr) (n c : Nat) (l : List Ev) : Prop := l.length = n ∧ EvsAt w w.heap.size A l ∧ n ≤ 140737488355328 ∧ (A = none → c = 0) ∧ ∀ e ∈ l, EvBd e

end

end Go.Proofs.YtdcinodbgbkobaaGreatDoor

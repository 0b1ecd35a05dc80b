/- which of the program, with each of its tests; Names, ByMaker, ByTag. -/
import Derived.Test.YtikbckpphkpaiaaDoorHolds
namespace Go.Proofs.YtikbckpphkpaiaaDoor
open Go.Shelf Go.RowKit Go.Maps
set_option linter.unusedVariables false

/-- Is a thing listed as of a tick, and does a test hold of it? -/
def whB (es : List Ev) (t : Int) (p : It → Bool) (n : ByteArray) : Bool := match atP es n t with | some x => x.listed && p x | none => false
theorem row_ne {es : List Ev} {n : ByteArray} (h : rowOf es n ≠ []) : ∃ e ∈ es, e.item = n := by
  cases hf : ofN es n with
  | nil => exact absurd (by unfold rowOf; rw [hf]; rfl) h
  | cons e l =>
    have : e ∈ ofN es n := by rw [hf]; simp
    unfold ofN at this
    rw [List.mem_filter] at this
    exact ⟨e, this.1, of_decide_eq_true this.2⟩
theorem fold_tags (l : List Ev) (h : ∀ e ∈ l, EvSh e) : ∀ r : List St, (∀ s ∈ r, s.item.tags.size ≤ 1000000) → ∀ s ∈ l.foldl rowStep r, s.item.tags.size ≤ 1000000 := by
  induction l with
  | nil => intro r hr; exact hr
  | cons e l ih =>
    intro r hr
    rw [List.foldl_cons]
    refine ih (fun x hx => h x (List.mem_cons_of_mem _ hx)) _ (fun s hs => ?_)
    unfold rowStep at hs
    rcases List.mem_append.1 hs with hs | hs
    · exact hr s hs
    · obtain rfl : s = _ := by simpa using hs
      have h0 : (r.getLast?.getD (st0 e.item)).item.tags.size ≤ 1000000 := by
        cases hl : r.getLast? with
        | none => exact Nat.zero_le _
        | some y => exact hr y (List.mem_of_getLast? hl)
      have h1 := (h e (by simp)).2.2.2
      have h2 := cut_le e.text
      unfold stepSt
      split
      · show (restP e.text).size ≤ 1000000
        omega
      · split <;> exact h0
theorem at_tags {es : List Ev} (h : ∀ e ∈ es, EvSh e) {n : ByteArray} {t : Int} {x : It} (hx : atP es n t = some x) : x.tags.size ≤ 1000000 := by
  unfold atP at hx
  obtain ⟨s, hs, rfl⟩ := Option.map_eq_some_iff.1 hx
  have h1 : s ∈ rowOf es n := (List.takeWhile_sublist _).subset (List.mem_of_getLast? hs)
  exact fold_tags _ (fun e he => h e (List.mem_filter.1 he).1) [] (fun s hs => by cases hs) s h1
theorem mk_sl {v : Value} (h : okSl v = true) : ∃ x : Option Addr × Nat × Nat, v = .slice x.1 x.2.1 x.2.2 := by
  match v, h with
  | .slice a l c, _ => exact ⟨(a, l, c), rfl⟩
theorem str_info : (Tryd.prog.info? 9).map (fun i => (i.zero, i.size, i.bytes)) = some (some (.string ⟨#[]⟩), 1, 16) := by kernel_rfl
theorem one_str (w : World) (z : ByteArray) (t : TypeId) : RowIn (w.alloc (.cells #[.string z] t)) (w.heap.size + 1) 1 (some ⟨w.heap.size, 0, none⟩) 1 [.string z] := by
  refine ⟨rfl, Or.inr ⟨w.heap.size, 0, rfl, by omega, fun j u hu => ?_⟩⟩
  rw [(Blk.new w t _).cell]
  rw [← hu, Nat.zero_add]
  simp

theorem nil_cap {w : World} {base : Nat} {e : TypeId} {size n c : Nat} {A : Option Addr} {xs : List Value} (h : w.ownsRow base e size (.slice A n c) n xs) : A = none → c = 0 := by
  intro hA
  rcases h.2 with ⟨h1, _⟩ | ⟨g, cap, cur, h1, _⟩
  · injection h1
  · injection h1 with h1; rw [h1] at hA; cases hA
set_option maxHeartbeats 2000000 in
set_option maxRecDepth 100000 in
theorem which_names (cb : Nat) (F : Nat → Prop) (es : List Ev) (t : Int) (w : World) (h : CatAt w cb F es) (hb : es.length ≤ 1000000) :
    Calls Tryd.prog 40 #[.pointer (some ⟨cb, 0, none⟩), .int .i64 t, .func (Fn.func 41) #[] #[]] w fun e w' => ∃ A c ks, e = .returned (.slice A ks.length c) ∧ IsNames (whB es t (fun x => true)) ks ∧ ks.length ≤ es.length ∧ (A = none → c = 0) ∧ RowIn w' w'.heap.size 1 A ks.length (ks.map .string) ∧ Below w.heap.size w w' := by
  obtain ⟨i0, hi0, hz0, hz1, hz2⟩ := info_parts str_info
  have HC := Lib.hid h
  have HSH := Lib.hid h.sh
  obtain ⟨mb, G, last, h⟩ := h
  have c9 : w.cell? ⟨cb, 9, none⟩ = some (.map (some mb)) := h.blk.cell 9
  have HM := Lib.hid h.map
  have HSM : Hid (∀ n, (G n).isSome = true → n.size ≤ 1000000) := Lib.hid (fun n hn => by
    by_cases hr : rowOf es n = []
    · rw [h.none_ n hr] at hn; cases hn
    · obtain ⟨e, he, rfl⟩ := row_ne hr
      exact (h.sh e he).2.2.1)
  have HGS : Hid (∀ n x, atP es n t = some x → (G n).isSome = true) := Lib.hid (fun n x hx => by
    have hr : rowOf es n ≠ [] := fun e => by unfold atP at hx; rw [e] at hx; cases hx
    obtain ⟨g, cap, h1, _⟩ := h.some_ n hr
    rw [h1]; rfl)
  have hml : mb < w.heap.size := h.lt _ h.fm
  clear h
  go_enter Tryd.func40, Tryd.ntmps40
  go_wp2_with (first
    | (at_range; refine wpList_rangeM _ rfl _ 72 rfl 9 76 (string_keyed Tryd.underlying9) Tryd.underlying72 okSl mb es.length _ rfl HM.out ?_; intro w1 cnt0 hrg0 hg0 hs0 hc0)
    | fail)
  have HRG0 := Lib.hid hrg0
  have HB1 : Hid (Below w.heap.size w w1) := Lib.hid ((Below.refl _ _).grown hg0 (Nat.le_refl _) (fun j hj => by cases hj))
  have HZ1 := Lib.hid hs0
  clear hrg0 hg0 hs0 HM
  go_frame
  go_loopw [7] (fun s wr => ∃ (left : Lit → Bool) (cnt : Nat) (out : List ByteArray), Hid (MapGoes Tryd.prog 9 okSl wr mb w.heap.size es.length (mapG G) left cnt) ∧ out.length + cnt ≤ es.length ∧ Hid (out.Nodup ∧ ∀ n, n ∈ out ↔ ((G n).isSome = true ∧ left (.string n.data.toList) = false ∧ whB es t (fun x => true) n = true)) ∧ Hid (wr.ownsRow (w.heap.size + 1) 9 1 s out.length (out.map .string)) ∧ Hid (Below w.heap.size w wr) ∧ Hid (w.heap.size + 1 ≤ wr.heap.size)) (fun _ wr => wr.rangeLeft mb w.heap.size)
  case atStart => exact ⟨_, _, [], HRG0, by simpa using hc0, Lib.hid ⟨List.Pairwise.nil, fun n => ⟨fun h => (by cases h), fun h => (by
    obtain ⟨h1, h2, _⟩ := h
    rw [mapG_at] at h2
    rw [h1] at h2
    cases h2)⟩⟩, Lib.hid (own_nil _ _ _ _), HB1, Lib.hid (by rw [HZ1.out]; exact Nat.le_refl _)⟩
  case round =>
    obtain ⟨left, cnt, out, hrg, hcnt, hout, hrow, hbw, hzw⟩ := hrel
    obtain ⟨A5, c5, hr⟩ := own_shape hrow.out
    rw [hr] at hrow ⊢
    clear hr
    go_wp2_with (first
      | (at_next; refine wpList_nextS _ rfl _ rfl 9 Tryd.underlying9 okSl (fun x : Option Addr × Nat × Nat => .slice x.1 x.2.1 x.2.2) (fun v hv => mk_sl hv) mb w.heap.size es.length _ _ _ rfl hrg.out ?_ ?_)
      | fail)
    · intro _ hl
      have HL : Hid (∀ n, n ∈ out ↔ whB es t (fun x => true) n = true) := Lib.hid (fun n => by
        rw [hout.out.2 n]
        refine ⟨fun h => h.2.2, fun h => ⟨?_, hl _, h⟩⟩
        unfold whB at h
        cases ha : atP es n t with
        | none => rw [ha] at h; cases h
        | some x => exact HGS.out n x ha)
      have HSO := Lib.hid (sort_any wr (w.heap.size + 1) A5 out out.length c5 rfl hrow.out (by omega))
      have HIS := Lib.hid (sortN_is hout.out.1 HL.out)
      have HSL := Lib.hid (sortN_len out)
      have HNC := Lib.hid (nil_cap hrow.out)
      clear hl
      go_wp2_with fail
      refine HSO.out.mono ?_
      rintro e w9 ⟨rfl, hrw, hb9⟩
      have HRW := Lib.hid hrw
      have HB9 : Hid (Below w.heap.size w w9) := Lib.hid (hbw.out.trans (hb9.mono (by omega)))
      clear hrw hb9 HSO
      go_wp2_with fail
      go_ret
      refine ⟨A5, c5, sortN out, ?_, HIS.out, ?_, HNC.out, ?_, HB9.out⟩
      · rw [HSL.out]; rfl
      · rw [HSL.out]; omega
      · rw [HSL.out]; exact HRW.out
    · intro nm va vl vc w6 cnt1 hsz hlk hok hMt hrg1 hlt1 hg1 hs1 hen
      rw [mapG_at] at hMt
      have hnm : nm.size ≤ 1000000 := HSM.out nm (by rw [hMt]; rfl)
      have HGN : Hid ((G nm).isSome = true) := Lib.hid (by rw [hMt]; rfl)
      have HRG6 := Lib.hid hrg1
      have HB6 : Hid (Below w.heap.size w w6) := Lib.hid (hbw.out.grown hg1 hbw.out.size (fun j hj => by cases hj; exact Nat.le_refl _))
      have HZ6 : Hid (w.heap.size + 1 ≤ w6.heap.size) := Lib.hid (by rw [hs1]; exact hzw.out)
      have HR6 : Hid (w6.ownsRow (w.heap.size + 1) 9 1 (.slice A5 out.length c5) out.length (out.map .string)) := Lib.hid (owns_kept hrow.out (Kept.grown (S := fun q => q = w.heap.size) (Kept.refl _ wr) hg1 (fun j hj => Or.inl (Option.some.inj hj).symm)) (fun g hg e => by have := (hrow.out.lt _ hg).1; omega))
      have HLT : Hid (w6.rangeLeft mb w.heap.size < wr.rangeLeft mb w.heap.size) := Lib.hid (by rw [hrg1.left_eq, hrg.out.left_eq]; exact hlt1)
      have hrb : w.heap.size < w6.heap.size := by have := HZ6.out; omega
      have HAT := Lib.hid (at_any cb F es nm t w6 (HC.out.below HB6.out) hnm hb)
      have HLK := Lib.hid hlk
      have hcn : out.length + 1 ≤ es.length := by omega
      have hcn1 : out.length + 1 + cnt1 ≤ es.length := by omega
      have HNO : Hid (whB es t (fun x => true) nm = false → (out.Nodup ∧ ∀ n, n ∈ out ↔ ((G n).isSome = true ∧ (left (.string n.data.toList) && !(Lit.string n.data.toList).sameKey (.string nm.data.toList)) = false ∧ whB es t (fun x => true) n = true))) := Lib.hid (fun hf => ⟨hout.out.1, fun n => by
        rw [hout.out.2 n, str_same]
        constructor
        · rintro ⟨h1, h2, h3⟩; exact ⟨h1, by rw [h2]; rfl, h3⟩
        · rintro ⟨h1, h2, h3⟩
          by_cases e : n = nm
          · subst e; rw [hf] at h3; cases h3
          · exact ⟨h1, by simpa [e] using h2, h3⟩⟩)
      have HYES : Hid (whB es t (fun x => true) nm = true → ((out ++ [nm]).Nodup ∧ ∀ n, n ∈ out ++ [nm] ↔ ((G n).isSome = true ∧ (left (.string n.data.toList) && !(Lit.string n.data.toList).sameKey (.string nm.data.toList)) = false ∧ whB es t (fun x => true) n = true))) := Lib.hid (fun hf => by
        have hni : nm ∉ out := fun hi => by
          have := ((hout.out.2 nm).1 hi).2.1
          rw [HLK.out] at this
          cases this
        refine ⟨?_, fun n => ?_⟩
        · rw [List.nodup_append]
          refine ⟨hout.out.1, List.pairwise_singleton _ _, ?_⟩
          intro a ha b hb e
          obtain rfl : b = nm := by simpa using hb
          subst e
          exact hni ha
        · rw [List.mem_append, hout.out.2 n, str_same]
          constructor
          · rintro (⟨h1, h2, h3⟩ | h1)
            · exact ⟨h1, by rw [h2]; rfl, h3⟩
            · obtain rfl : n = nm := by simpa using h1
              exact ⟨HGN.out, by simp, hf⟩
          · rintro ⟨h1, h2, h3⟩
            by_cases e : n = nm
            · subst e; exact Or.inr (by simp)
            · exact Or.inl ⟨h1, by simpa [e] using h2, h3⟩)
      clear hrg1 hMt hlk hok hg1 hs1 hlt1 hsz
      have HWB : Hid (whB es t (fun x => true) nm = match atP es nm t with | some x => x.listed && (true) | none => false) := Lib.hid rfl
      have HTG : Hid (∀ x, atP es nm t = some x → x.tags.size ≤ 1000000) := Lib.hid (fun x hx => at_tags HSH.out hx)
      generalize atP es nm t = y at *
      unfold toldP itA at HAT
      go_wp2_with fail
      refine HAT.out.mono ?_
      rintro e w7 ⟨rfl, hb7⟩
      have HB7 : Hid (Below w.heap.size w w7) := Lib.hid (HB6.out.trans (hb7.mono HB6.out.size))
      have HK7 : Hid (Kept (fun _ => False) w6 w7) := Lib.hid (below_kept hb7 (Nat.le_refl _))
      have HR7 : Hid (w7.ownsRow (w.heap.size + 1) 9 1 (.slice A5 out.length c5) out.length (out.map .string)) := Lib.hid (owns_kept HR6.out HK7.out (fun _ _ h => h))
      have HRG7 := Lib.hid (HRG6.out.kept HK7.out (fun h => h) (fun h => h))
      have HLT7 : Hid (w7.rangeLeft mb w.heap.size < wr.rangeLeft mb w.heap.size) := Lib.hid (by rw [HRG7.out.left_eq, ← HRG6.out.left_eq]; exact HLT.out)
      have HZ7 : Hid (w.heap.size + 1 ≤ w7.heap.size) := Lib.hid (Nat.le_trans HZ6.out hb7.size)
      clear HAT hb7 HR6 HRG6 HLT HB6 HK7 HZ6 hen
      cases y with
      | none =>
        dsimp only [Option.getD_none, Option.isSome_none, it0]
        go_wp2_with fail
        go_roundw
        case rel => exact ⟨_, cnt1, out, Lib.hid (HRG7.out.alloc _), by omega, Lib.hid (HNO.out HWB.out), Lib.hid (HR7.out.alloc _), Lib.hid (HB7.out.alloc HB7.out.size _), Lib.hid (by have := HZ7.out; simp; omega)⟩
        case measure => rw [(HRG7.out.alloc _).left_eq, ← HRG7.out.left_eq]; exact HLT7.out
      | some x =>
        dsimp only [Option.getD_some, Option.isSome_some]
        have htg := HTG.out x rfl
        dsimp only at HWB
        cases hli : x.listed
        · have HF : Hid (whB es t (fun x => true) nm = false) := Lib.hid (by rw [HWB.out, hli]; rfl)
          clear hli
          go_wp2_with fail
          go_roundw
          case rel => exact ⟨_, cnt1, out, Lib.hid (HRG7.out.alloc _), by omega, Lib.hid (HNO.out HF.out), Lib.hid (HR7.out.alloc _), Lib.hid (HB7.out.alloc HB7.out.size _), Lib.hid (by have := HZ7.out; simp; omega)⟩
          case measure => rw [(HRG7.out.alloc _).left_eq, ← HRG7.out.left_eq]; exact HLT7.out
        · have HF : Hid (whB es t (fun x => true) nm = (true)) := Lib.hid (by rw [HWB.out, hli]; rfl)
          obtain ⟨w8, hw8⟩ : ∃ w8, w7.alloc (.cells #[.string x.name, .string x.maker, .string x.tags, .int .i64 x.stock, .int .i64 x.price, .int .i64 x.born, .bool true] 42) = w8 := ⟨_, rfl⟩
          have b8 : Blk w8 w7.heap.size 42 #[.string x.name, .string x.maker, .string x.tags, .int .i64 x.stock, .int .i64 x.price, .int .i64 x.born, .bool true] := by rw [← hw8]; exact Blk.new _ _ _
          have HB8 : Hid (Below w.heap.size w w8) := Lib.hid (by rw [← hw8]; exact HB7.out.alloc HB7.out.size _)
          have HR8 : Hid (w8.ownsRow (w.heap.size + 1) 9 1 (.slice A5 out.length c5) out.length (out.map .string)) := Lib.hid (by rw [← hw8]; exact HR7.out.alloc _)
          have HRG8 := Lib.hid (HRG7.out.alloc (.cells #[.string x.name, .string x.maker, .string x.tags, .int .i64 x.stock, .int .i64 x.price, .int .i64 x.born, .bool true] 42))
          rw [hw8] at HRG8
          have HLT8 : Hid (w8.rangeLeft mb w.heap.size < wr.rangeLeft mb w.heap.size) := Lib.hid (by rw [HRG8.out.left_eq, ← HRG7.out.left_eq]; exact HLT7.out)
          have HZ8 : Hid (w.heap.size + 1 ≤ w8.heap.size) := Lib.hid (by rw [← hw8]; have := HZ7.out; simp; omega)
          have j0 : w8.cell? ⟨w7.heap.size, 0, none⟩ = some (.string x.name) := b8.cell 0
          have j1 : w8.cell? ⟨w7.heap.size, 1, none⟩ = some (.string x.maker) := b8.cell 1
          have j2 : w8.cell? ⟨w7.heap.size, 2, none⟩ = some (.string x.tags) := b8.cell 2
          have j3 : w8.cell? ⟨w7.heap.size, 3, none⟩ = some (.int .i64 x.stock) := b8.cell 3
          have j4 : w8.cell? ⟨w7.heap.size, 4, none⟩ = some (.int .i64 x.price) := b8.cell 4
          have j5 : w8.cell? ⟨w7.heap.size, 5, none⟩ = some (.int .i64 x.born) := b8.cell 5
          have j6 : w8.cell? ⟨w7.heap.size, 6, none⟩ = some (.bool true) := b8.cell 6
          have HHO := Lib.hid (names1_any x w8)
          rw [hli] at HHO
          clear hli b8 HR7 HRG7 HLT7 HB7 HZ7
          go_wp2_with fail
          refine HHO.out.mono ?_
          rintro e w9 ⟨rfl, hb9⟩
          have HK9 : Hid (Kept (fun _ => False) w8 w9) := Lib.hid (below_kept hb9 (Nat.le_refl _))
          have HB9 : Hid (Below w.heap.size w w9) := Lib.hid (HB8.out.trans (hb9.mono HB8.out.size))
          have HR9 : Hid (w9.ownsRow (w.heap.size + 1) 9 1 (.slice A5 out.length c5) out.length (out.map .string)) := Lib.hid (owns_kept HR8.out HK9.out (fun _ _ h => h))
          have HRG9 := Lib.hid (HRG8.out.kept HK9.out (fun h => h) (fun h => h))
          have HLT9 : Hid (w9.rangeLeft mb w.heap.size < wr.rangeLeft mb w.heap.size) := Lib.hid (by rw [HRG9.out.left_eq, ← HRG8.out.left_eq]; exact HLT8.out)
          have HZ9 : Hid (w.heap.size + 1 ≤ w9.heap.size) := Lib.hid (Nat.le_trans HZ8.out hb9.size)
          have hmb9 : mb < w9.heap.size := by have := HZ9.out; omega
          clear hb9 HHO HR8 HRG8 HLT8 HB8 HK9 HZ8 hw8
          · go_wp2_with (first
              | (at_builtin; refine wpList_append_row _ rfl _ _ 39 rfl (w.heap.size + 1) 9 i0 _ 1 16 Tryd.underlying39 hi0 hz0 hz1 hz2 rfl (by omega) (.slice A5 out.length c5) out.length _ rfl (HR9.out.alloc _) (w9.heap.size + 1) (some ⟨w9.heap.size, 0, none⟩) 1 1 [.string nm] rfl (one_str w9 nm _) (fun h => by cases h) (fun u hu => by simp at hu; subst hu; rfl) (by unfold maxLen; omega) (by omega) (by have := HZ9.out; simp; omega) ?_; intro v10 w10 ho10 hg10 hv10))
            have HNM : Hid (some mb ≠ (Value.slice A5 out.length c5).ownBlock) := Lib.hid (fun e => by have := (HR9.out.lt _ e.symm).1; omega)
            have HNR : Hid (some w.heap.size ≠ (Value.slice A5 out.length c5).ownBlock) := Lib.hid (fun e => by have := (HR9.out.lt _ e.symm).1; omega)
            have HRG10 := Lib.hid ((HRG9.out.alloc (.cells #[.string nm] 9)).grown hg10 HNM.out HNR.out)
            go_roundw
            case rel =>
              refine ⟨_, cnt1, out ++ [nm], HRG10, by simp; omega, Lib.hid (HYES.out HF.out), Lib.hid ?_, Lib.hid ((HB9.out.alloc HB9.out.size _).grown hg10 (by have := HZ9.out; simp; omega) (fun j hj => by have := (HR9.out.lt _ hj).1; omega)), Lib.hid (by have := HZ9.out; have := hg10.size; simp at this; omega)⟩
              rw [List.map_append, List.length_append]
              exact ho10
            case measure => rw [HRG10.out.left_eq, ← HRG9.out.left_eq]; exact HLT9.out



set_option maxHeartbeats 1000000 in
set_option maxRecDepth 100000 in
theorem names_any (cb : Nat) (F : Nat → Prop) (es : List Ev) (t : Int) (w : World) (h : CatAt w cb F es) (hb : es.length ≤ 1000000) :
    Calls Tryd.prog 17 #[.pointer (some ⟨cb, 0, none⟩), .int .i64 t] w fun e w' => ∃ A c ks, e = .returned (.slice A ks.length c) ∧ IsNames (whB es t (fun x => true)) ks ∧ ks.length ≤ es.length ∧ (A = none → c = 0) ∧ RowIn w' w'.heap.size 1 A ks.length (ks.map .string) ∧ Below w.heap.size w w' := by
  have HW := Lib.hid (which_names cb F es t w h hb)
  clear h
  go_enter Tryd.func17, Tryd.ntmps17
  go_wp2_with fail
  refine HW.out.mono ?_
  rintro e w1 ⟨A, c, ks, rfl, hi, hkl, hnc, hr, hb1⟩
  have HI := Lib.hid hi
  have HNC := Lib.hid hnc
  have HR := Lib.hid hr
  clear hi hr hnc HW
  go_wp2_with fail
  go_ret
  exact ⟨A, c, ks, rfl, HI.out, hkl, HNC.out, HR.out, hb1⟩



end Go.Proofs.YtikbckpphkpaiaaDoor

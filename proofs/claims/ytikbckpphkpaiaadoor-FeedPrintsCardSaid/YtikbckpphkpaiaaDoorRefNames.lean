/- The document's Names. -/
import Derived.Test.YtikbckpphkpaiaaDoorRefAt
import Derived.Test.YtikbckpphkpaiaaDoorPut
namespace Go.Proofs.YtikbckpphkpaiaaDoor
open Go.Shelf Go.RowKit Go.Maps
set_option linter.unusedVariables false

/-- Is a thing listed, of the events up to a tick? -/
def rlB (l : List Ev) (t : Int) (n : ByteArray) : Bool := (rx (rst l n t)).listed
theorem rl_in {l : List Ev} {t : Int} {n : ByteArray} (h : rlB l t n = true) : ∃ e ∈ l, e.item = n := by
  unfold rlB rst at h
  by_cases hr : rowOf (l.filter fun e => decide (e.tick ≤ t)) n = []
  · rw [hr] at h; cases h
  · obtain ⟨e, he, h2⟩ := row_ne hr
    exact ⟨e, (List.mem_filter.1 he).1, h2⟩
theorem rl_wh {l : List Ev} (h : Rising l) (t : Int) (n : ByteArray) : rlB l t n = whB l t (fun x => true) n := by
  unfold rlB whB
  rw [at_ahead h n t]
  show (rx (rst l n t)).listed = match (rst l n t).map (·.item) with | some x => x.listed && true | none => false
  cases rst l n t with
  | none => rfl
  | some s => simp [rx]
theorem putP_len (l : List ByteArray) (s : ByteArray) : (putP l s).length ≤ l.length + 1 := by
  induction l with
  | nil => simp [putP]
  | cons x l ih =>
    unfold putP
    split
    · simp
    · split <;> simp <;> omega

set_option maxHeartbeats 2000000 in
set_option maxRecDepth 100000 in
theorem refnames_any (w : World) (B : Nat) (A : Option Addr) (l : List Ev) (n c : Nat) (t : Int) (hn : l.length = n) (hl : EvsAt w B A l) (hB : B ≤ w.heap.size) (hb : n ≤ 100000) (hsh : ∀ e ∈ l, EvSh e) (hkd : ∀ e ∈ l, e.kind = 11 ∨ e.kind = 12 ∨ e.kind = 13) :
    Calls Tryd.prog 32 #[.slice A n c, .int .i64 t] w fun e w' => ∃ A' c' ks, e = .returned (.slice A' ks.length c') ∧ IsNames (rlB l t) ks ∧ ks.length ≤ n ∧ w'.ownsRow w.heap.size 9 1 (.slice A' ks.length c') ks.length (ks.map .string) ∧ Below w.heap.size w w' := by
  have HN := Lib.hid hn
  have HL := Lib.hid hl
  have HS := Lib.hid hsh
  have HKD := Lib.hid hkd
  clear hn hl hsh hkd
  go_enter Tryd.func32, Tryd.ntmps32
  go_wp2_with fail
  go_loopw [5, 6] (fun s i wr => ∃ (k : Nat) (out : List ByteArray) (A5 : Option Addr) (m c5 : Nat), k ≤ n ∧ i = .int .i64 k ∧ s = .slice A5 m c5 ∧ Hid (out.length = m) ∧ m ≤ k ∧ Hid (wr.ownsRow w.heap.size 9 1 (.slice A5 m c5) m (out.map .string)) ∧ Hid (out.Pairwise ltN ∧ ∀ y, y ∈ out ↔ ((∃ e ∈ l.take k, e.item = y) ∧ rlB l t y = true)) ∧ Hid (Below w.heap.size w wr)) (fun _ i _ => n - (intOf i).toNat)
  case atStart => exact ⟨0, [], none, 0, 0, Nat.zero_le _, rfl, rfl, Lib.hid rfl, Nat.le_refl _, Lib.hid (own_nil _ _ _ _), Lib.hid ⟨List.Pairwise.nil, fun y => ⟨fun h => (by cases h), fun h => (by obtain ⟨⟨e, he, _⟩, _⟩ := h; cases he)⟩⟩, Lib.hid (Below.refl _ _)⟩
  case round =>
    obtain ⟨k, out, A5, m, c5, hk, rfl, rfl, hm, hmk, hrow, hout, hbw⟩ := hrel
    by_cases hlt : k < n
    · obtain ⟨x, hx⟩ : ∃ x, l[k]? = some x := ⟨l[k]'(by rw [HN.out]; exact hlt), List.getElem?_eq_getElem _⟩
      obtain ⟨g, o, hA, hgB, hcl⟩ := HL.out.at (by rw [HN.out]; omega)
      have HE0 := Lib.hid (hcl k x hx)
      have hgw : g < w.heap.size := Nat.lt_of_lt_of_le hgB hB
      have f5 : wr.cell? ⟨g, o + k * 8 + 5, none⟩ = some (.string x.item) := (hbw.out.cell (p := ⟨g, o + k * 8 + 5, none⟩) hgw).trans HE0.out.2.2.2.2.2.1
      have HAT := Lib.hid (refat_any wr B A l n c x.item t HN.out (HL.out.below (hbw.out.mono hB)) (Nat.le_trans hB hbw.out.size) (by omega) HS.out HKD.out)
      have htk : l.take (k + 1) = l.take k ++ [x] := by rw [List.take_add_one, hx]; rfl
      have HMM : Hid (∀ y, (∃ e ∈ l.take (k + 1), e.item = y) ↔ (∃ e ∈ l.take k, e.item = y) ∨ y = x.item) := Lib.hid (fun y => by
        rw [htk]
        constructor
        · rintro ⟨e, he, rfl⟩
          rcases List.mem_append.1 he with he | he
          · exact Or.inl ⟨e, he, rfl⟩
          · obtain rfl : e = x := by simpa using he
            exact Or.inr rfl
        · rintro (⟨e, he, rfl⟩ | rfl)
          · exact ⟨e, List.mem_append.2 (Or.inl he), rfl⟩
          · exact ⟨x, by simp, rfl⟩)
      have hk8 : (k : Int) < (n : Int) := by omega
      have hk9 : (0 : Int) ≤ (k : Int) := by omega
      subst hA
      have HRL : Hid (rlB l t x.item = (rx (rst l x.item t)).listed) := Lib.hid rfl
      clear hcl hx htk
      generalize rst l x.item t = o1 at *
      unfold rtoldP itA at HAT
      generalize rx o1 = xi at *
      generalize o1.isSome = ok1 at *
      go_wp2_with fail
      refine HAT.out.mono ?_
      rintro e w6 ⟨rfl, hb6⟩
      have HB6 : Hid (Below w.heap.size w w6) := Lib.hid (hbw.out.trans (hb6.mono hbw.out.size))
      have HR6 : Hid (w6.ownsRow w.heap.size 9 1 (.slice A5 m c5) m (out.map .string)) := Lib.hid (owns_kept hrow.out (below_kept (S := fun _ => False) hb6 (Nat.le_refl _)) (fun _ _ h => h))
      have HZ6 : Hid (wr.heap.size ≤ w6.heap.size) := Lib.hid hb6.size
      clear HAT hb6
      obtain ⟨w7, hw7⟩ : ∃ w7, w6.alloc (.cells #[.string xi.name, .string xi.maker, .string xi.tags, .int .i64 xi.stock, .int .i64 xi.price, .int .i64 xi.born, .bool xi.listed] 67) = w7 := ⟨_, rfl⟩
      have HB7 : Hid (Below w.heap.size w w7) := Lib.hid (by rw [← hw7]; exact HB6.out.alloc HB6.out.size _)
      have HR7 : Hid (w7.ownsRow w.heap.size 9 1 (.slice A5 m c5) m (out.map .string)) := Lib.hid (by rw [← hw7]; exact HR6.out.alloc _)
      have b6 : w7.cell? ⟨w6.heap.size, 6, none⟩ = some (.bool xi.listed) := by rw [← hw7]; exact (Blk.new _ _ _).cell 6
      have f57 : w7.cell? ⟨g, o + k * 8 + 5, none⟩ = some (.string x.item) := (HB7.out.cell (p := ⟨g, o + k * 8 + 5, none⟩) hgw).trans HE0.out.2.2.2.2.2.1
      cases hli : xi.listed
      · have HF : Hid (rlB l t x.item = false) := Lib.hid (by rw [HRL.out, hli])
        have HRA : Hid (∀ o : Obj, (w6.alloc o).ownsRow w.heap.size 9 1 (.slice A5 m c5) m (out.map .string)) := Lib.hid (fun o => HR6.out.alloc _)
        have HBA : Hid (∀ o : Obj, Below w.heap.size w (w6.alloc o)) := Lib.hid (fun o => HB6.out.alloc HB6.out.size _)
        clear hli b6 f57 HB7 HR7 hw7
        go_wp2_with fail
        go_roundw
        case rel =>
          refine ⟨k + 1, out, A5, m, c5, by omega, by go_num, rfl, hm, by omega, Lib.hid (HRA.out _), Lib.hid ⟨hout.out.1, fun y => ?_⟩, Lib.hid (HBA.out _)⟩
          rw [hout.out.2 y, HMM.out y]
          constructor
          · rintro ⟨h1, h2⟩; exact ⟨Or.inl h1, h2⟩
          · rintro ⟨h1 | h1, h2⟩
            · exact ⟨h1, h2⟩
            · rw [h1, HF.out] at h2; cases h2
        case measure => simp [intOf]; omega
      · have HF : Hid (rlB l t x.item = true) := Lib.hid (by rw [HRL.out, hli])
        rw [hli] at b6 hw7
        have HPU := Lib.hid (put_any w7 A5 out m c5 x.item w.heap.size hm.out HR7.out HB7.out.size (by omega))
        have hpl := putP_len out x.item
        rw [hm.out] at hpl
        clear hli
        go_wp2_with fail
        refine HPU.out.mono ?_
        rintro e w8 ⟨A8, c8, rfl, hr8, hb8⟩
        have HB8 : Hid (Below w.heap.size w w8) := Lib.hid (HB7.out.trans (hb8.mono HB7.out.size))
        have HR8 := Lib.hid hr8
        clear hr8 hb8 HPU
        go_wp2_with fail
        go_roundw
        case rel =>
          refine ⟨k + 1, putP out x.item, A8, (putP out x.item).length, c8, by omega, by go_num, rfl, Lib.hid rfl, by omega, HR8, Lib.hid ⟨putP_rise hout.out.1 _, fun y => ?_⟩, HB8⟩
          rw [putP_mem, hout.out.2 y, HMM.out y]
          constructor
          · rintro (⟨h1, h2⟩ | h1)
            · exact ⟨Or.inl h1, h2⟩
            · exact ⟨Or.inr h1, by rw [h1]; exact HF.out⟩
          · rintro ⟨h1 | h1, h2⟩
            · exact Or.inl ⟨h1, h2⟩
            · exact Or.inr h1
        case measure => simp [intOf]; omega
    · obtain rfl : n = k := by omega
      go_wp2_with fail
      go_ret
      have htl : l.take n = l := by rw [← HN.out, List.take_length]
      refine ⟨A5, c5, out, ?_, ⟨hout.out.1, fun y => ?_⟩, ?_, ?_, hbw.out⟩
      · rw [hm.out]; rfl
      · rw [hout.out.2 y, htl]
        exact ⟨fun h => h.2, fun h => ⟨rl_in h, h⟩⟩
      · rw [hm.out]; exact hmk
      · rw [hm.out]; exact hrow.out

end Go.Proofs.YtikbckpphkpaiaaDoor

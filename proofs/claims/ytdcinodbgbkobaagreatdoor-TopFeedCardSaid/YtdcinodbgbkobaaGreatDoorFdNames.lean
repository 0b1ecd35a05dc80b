/- slices.Collect(maps.Keys(..)) of a map of things; slices.Concat of two rows of names. -/
import Derived.Test.YtdcinodbgbkobaaGreatDoorFdCat
import Derived.Test.YtdcinodbgbkobaaGreatDoorFdRows
namespace Go.Proofs.YtdcinodbgbkobaaGreatDoor
open Go.Shelf Go.RowKit Go.Maps Go.Lib Go.Sort
set_option linter.unusedVariables false

theorem strKeys_nodup {H : Type} {P : Program} {k : TypeId} {R : Value → Option (DataW H × List MemPlace)} {w : World} {b n : Nat} {D : DataW H} (h : w.ownsMap P k R b n D) (hk : P.underlying k = some .string) :
    (strKeys D).Nodup ∧ ∀ x, x ∈ strKeys D ↔ Maps.has D (.string x) = true := by
  obtain ⟨es, rfl, hp, _⟩ := h.entries (string_keyed hk)
  obtain ⟨es', he, hks⟩ := h.keysOf
  injection he with he
  subst he
  have hstr : ∀ p ∈ es, ∃ x, p.1 = .string x := by
    intro p hp'
    obtain ⟨v, hv⟩ := hks p hp'
    obtain ⟨x, _, hx, _⟩ := Maps.keyOf_str hk hv
    exact ⟨x, hx⟩
  refine ⟨?_, fun x => ?_⟩
  · show (es.map fun p => strOf p.1).Nodup
    rw [List.nodup_iff_pairwise_ne, List.pairwise_map]
    refine hp.imp_of_mem ?_
    intro p q hpm hqm hne he
    obtain ⟨x, hx⟩ := hstr p hpm
    obtain ⟨y, hy⟩ := hstr q hqm
    rw [hx, hy] at he hne
    exact hne (by simpa [strOf] using he)
  · show x ∈ (es.map fun p => strOf p.1) ↔ es.any (fun p => p.1.sameKey (.string x)) = true
    rw [List.mem_map, List.any_eq_true]
    refine ⟨?_, ?_⟩
    · rintro ⟨p, hpm, rfl⟩
      obtain ⟨y, hy⟩ := hstr p hpm
      refine ⟨p, hpm, ?_⟩
      rw [hy]
      exact WideAt.sameKey_self (by trivial)
    · rintro ⟨p, hpm, he⟩
      refine ⟨p, hpm, ?_⟩
      rw [WideAt.sameKey_eq he]
      rfl
def toB (x : List UInt8) : ByteArray := ⟨x.toArray⟩
theorem toB_data (x : List UInt8) : (toB x).data.toList = x := by simp [toB]
theorem enc_toB (l : List (List UInt8)) : l.map encStr = (l.map toB).map .string := by rw [List.map_map]; rfl

theorem keysIt_any (mb : Nat) (w : World) : Calls Tryz.prog 27 #[.map (some mb)] w fun e w' => e = .returned (.func (.func 52) #[] #[.pointer (some ⟨w.heap.size, 0, none⟩)]) ∧ w' = w.alloc (.cells #[.map (some mb)] 75) :=
  callsIn_wide.1 (AnyZ.keys_in Tryz.keysIt Fence.wide 5 trivial rfl (some mb) w)
theorem collect_any (mb n : Nat) (G : ByteArray → Option Value) (w : World) (h : MapIs Tryz.prog 9 okIt w mb n (mapG G)) (hb : n ≤ 1000) :
    Calls Tryz.prog 26 #[.func (.func 52) #[] #[.pointer (some ⟨w.heap.size, 0, none⟩)]] (w.alloc (.cells #[.map (some mb)] 75)) fun e w' => ∃ (A : Option Addr) (c : Nat) (ks : List ByteArray), e = .returned (.slice A ks.length c) ∧ (∀ y, y ∈ ks ↔ (G y).isSome = true) ∧ ks.length ≤ n ∧ (A = none → c = 0) ∧ RowIn w' w'.heap.size 1 A ks.length (ks.map .string) ∧ Below w.heap.size w w' := by
  obtain ⟨D, hD, hM⟩ := h
  have hnd := strKeys_nodup hD Tryz.underlying9
  have hsz : Maps.size D ≤ n := hD.size_le
  have hbl := hD.lt
  have hseq : SeqGives Fence.wide 3 Tryz.prog 52 #[.pointer (some ⟨w.heap.size, 0, none⟩)] encStr (fun ss => ss.Perm (strKeys D)) (Maps.size D) (w.alloc (.cells #[.map (some mb)] 75)) :=
    AnyZ.keys_gives (ρ := Tryz.keysIt_ren) { Tryz.keysIt with } Fence.wide _ trivial rfl (by omega) w.heap.size mb n D _ (by simp) (by simp) (by
      obtain ⟨es, clock, hb, Ft, hs, hD⟩ := hD
      exact ⟨es, clock, (Below.heap_alloc _ _ mb hbl).trans hb, Ft, hs, hD⟩)
  have hc := callsIn_wide.1 (AnyZ.collect_in Tryz.collectS Fence.wide 5 trivial trivial rfl (by omega) 52 #[.pointer (some ⟨w.heap.size, 0, none⟩)] trivial (enters_of Tryz.func52 (by kernel_rfl) rfl) _ _ (by unfold maxLen; omega) (by omega) _ hseq)
  refine hc.mono ?_
  rintro e w' ⟨v, ss, rfl, hp, ho, hnil, hb2⟩
  have hlen : ss.length ≤ n := by
    rw [hp.length_eq]
    have : (strKeys D).length = Maps.size D := by
      obtain ⟨es, rfl, _, _⟩ := hD.entries (string_keyed Tryz.underlying9)
      show (es.map _).length = es.length
      rw [List.length_map]
    omega
  rw [enc_toB] at ho
  obtain ⟨A, c, rfl⟩ := own_shape ho
  refine ⟨A, c, ss.map toB, by rw [List.length_map], fun y => ?_, by rw [List.length_map]; exact hlen, fun hA => ?_, by rw [List.length_map]; exact RowIn.of_own ho, ?_⟩
  · rw [List.mem_map]
    have hv := view_some_has hD (.string y.data.toList)
    rw [hM, mapG_at] at hv
    constructor
    · rintro ⟨x, hx, rfl⟩
      rw [hv, ← hnd.2, toB_data]
      exact hp.mem_iff.1 hx
    · intro hy
      refine ⟨y.data.toList, hp.mem_iff.2 ((hnd.2 _).2 (by rw [← hv]; exact hy)), ba_eq (toB_data _)⟩
  · rcases ho.2 with ⟨h1, _⟩ | ⟨g, cap, cur, h1, _⟩
    · injection h1
    · injection h1 with h1; rw [h1] at hA; cases hA
  · exact ((Below.refl w.heap.size w).alloc (Nat.le_refl _) _).trans (hb2.mono (by simp))

theorem cell_lt2 {w : World} {a : Addr} {v : Value} (h : w.cell? a = some v) : a.block < w.heap.size := by
  rcases Nat.lt_or_ge a.block w.heap.size with h1 | h1
  · exact h1
  · simp [World.cell?, Array.getElem?_eq_none h1] at h
theorem str_info2 : (Tryz.prog.info? 9).map (fun i => (i.zero, i.size, i.bytes)) = some (some (.string ⟨#[]⟩), 1, 16) := by kernel_rfl
theorem one_strs (l : List ByteArray) : ∀ u ∈ l.map Value.string, u.oneCell' = true := fun u hu => by
  obtain ⟨x, _, rfl⟩ := List.mem_map.1 hu
  rfl
theorem growS_any (n : Nat) (w : World) (hn : n ≤ 1000000) : Calls Tryz.prog 50 #[.slice none 0 0, .int .i64 n] w fun e w' => ∃ A c, e = .returned (.slice A 0 c) ∧ w'.ownsRow w.heap.size 9 1 (.slice A 0 c) 0 [] ∧ Below w.heap.size w w' := by
  obtain ⟨i0, hi0, hz0, hz1, hz2⟩ := info_parts str_info2
  rcases Nat.eq_zero_or_pos n with h | h
  · subst h
    refine (Any8.slices_Grow_room Tryz.growS none 0 0 0 w (by omega) (by omega) (by omega) (by omega)).mono ?_
    intro e w' hh
    obtain ⟨rfl, rfl⟩ := hh
    exact ⟨none, 0, rfl, own_nil _ _ _ _, Below.refl _ _⟩
  · refine (Any8.slices_Grow_grow Tryz.growS i0 (.string ⟨#[]⟩) hi0 hz0 (by rw [hz1]; omega) none 0 0 n [] w (by omega) (by omega) (by rw [hz2]; omega) (by omega) (by simp) (fun _ => rfl) (fun a h => by cases h)).mono ?_
    rintro e w' ⟨rfl, rfl⟩
    refine ⟨_, _, rfl, ⟨rfl, Or.inr ⟨w.heap.size, _, _, rfl, Nat.le_refl _, heap_alloc_new _ _, Nat.zero_le _, grownCap_le_maxLen _ _ _ _ (by unfold maxLen; omega), ?_, rfl⟩⟩, ?_⟩
    · have h1 := grownCap_ge w (0 + n) 0 (Tryz.growS_ren.t 25)
      have h2 : (Value.string ⟨#[]⟩).cells.size = 1 := rfl
      simp only [Array.size_append, size_zeroCells, h2, List.size_toArray, List.length_nil]
      omega
    · have h1 : Below w.heap.size w w.drew := below_drew (Below.refl _ _)
      exact h1.alloc (Nat.le_refl _) _

set_option maxHeartbeats 2000000 in
set_option maxRecDepth 100000 in
theorem concat_any (w : World) (S : Nat) (A1 A2 : Option Addr) (l1 l2 : List ByteArray) (n1 n2 c1 c2 : Nat) (h0 : w.cell? ⟨S, 0, none⟩ = some (.slice A1 n1 c1)) (h1 : w.cell? ⟨S, 1, none⟩ = some (.slice A2 n2 c2)) (hl1 : l1.length = n1) (hl2 : l2.length = n2)
    (r1 : RowIn w w.heap.size 1 A1 n1 (l1.map .string)) (r2 : RowIn w w.heap.size 1 A2 n2 (l2.map .string)) (e1 : A1 = none → c1 = 0) (e2 : A2 = none → c2 = 0) (hb1 : n1 ≤ 100000) (hb2 : n2 ≤ 100000) :
    Calls Tryz.prog 25 #[.slice (some ⟨S, 0, none⟩) 2 2] w fun e w' => ∃ A c, e = .returned (.slice A (n1 + n2) c) ∧ w'.ownsRow w.heap.size 9 1 (.slice A (n1 + n2) c) (n1 + n2) ((l1 ++ l2).map .string) ∧ Below w.heap.size w w' := by
  have hS : S < w.heap.size := cell_lt2 h0
  have HR1 := Lib.hid r1
  have HR2 := Lib.hid r2
  have HL1 := Lib.hid hl1
  have HL2 := Lib.hid hl2
  have HC : Hid (∀ W, Below w.heap.size w W → W.cell? ⟨S, 0, none⟩ = some (.slice A1 n1 c1) ∧ W.cell? ⟨S, 1, none⟩ = some (.slice A2 n2 c2)) := Lib.hid (fun W hW => ⟨(hW.cell (p := ⟨S, 0, none⟩) hS).trans h0, (hW.cell (p := ⟨S, 1, none⟩) hS).trans h1⟩)
  have HGR := Lib.hid (growS_any (n1 + n2) w (by omega))
  obtain ⟨i0, hi0, hz0, hz1, hz2⟩ := info_parts str_info2
  clear r1 r2 hl1 hl2
  go_enter Tryz.func25, Tryz.ntmps25
  go_wp2_with fail
  go_loopw [3, 11] (fun v i wr => ∃ k z : Nat, k ≤ 2 ∧ i = .int .i64 k ∧ v = .int .i64 z ∧ z ≤ 200000 ∧ ((k = 0 ∧ z = 0) ∨ (k = 1 ∧ z = n1) ∨ (k = 2 ∧ z = n1 + n2)) ∧ wr = w) (fun _ i _ => 2 - (intOf i).toNat)
  case atStart => exact ⟨0, 0, by omega, rfl, rfl, by omega, Or.inl ⟨rfl, rfl⟩, rfl⟩
  case round =>
    obtain ⟨k, z, hk, rfl, rfl, hz, hkz, rfl⟩ := hrel
    rcases hkz with ⟨rfl, rfl⟩ | ⟨rfl, rfl⟩ | ⟨rfl, hz3⟩
    · clear h1
      go_wp2_with fail
      go_roundw
      case rel => exact ⟨1, n1, by omega, by go_num, by go_num, by omega, Or.inr (Or.inl ⟨rfl, rfl⟩), by trivial⟩
      case measure => simp [intOf]
    · clear h0
      have q1 : decide ((z : Int) + (n2 : Int) < 0) = false := decide_eq_false (by omega)
      go_wp2_with fail
      go_roundw
      case rel => exact ⟨2, z + n2, by omega, by go_num, by go_num, by omega, Or.inr (Or.inr ⟨rfl, rfl⟩), by trivial⟩
      case measure => simp [intOf]
    · have HGZ : Hid (Calls Tryz.prog 50 #[.slice none 0 0, .int .i64 z] wr fun e w' => ∃ A c, e = .returned (.slice A 0 c) ∧ w'.ownsRow wr.heap.size 9 1 (.slice A 0 c) 0 [] ∧ Below wr.heap.size wr w') := Lib.hid (by rw [hz3]; exact HGR.out)
      clear hz3 HGR h0 h1
      go_wp2_with fail
      refine HGZ.out.mono ?_
      rintro e w1 ⟨A3, c3, rfl, ho3, hb3⟩
      have HO3 := Lib.hid ho3
      have HB3 := Lib.hid hb3
      clear ho3 hb3 HGZ
      go_wp2_with fail
      go_loopw [6, 27] (fun v i wq => ∃ (k m : Nat) (A : Option Addr) (c : Nat) (out : List ByteArray), k ≤ 2 ∧ i = .int .i64 k ∧ v = .slice A m c ∧ Hid (wq.ownsRow wr.heap.size 9 1 (.slice A m c) m (out.map .string)) ∧ Hid (Below wr.heap.size wr wq) ∧ Hid ((k = 0 ∧ m = 0 ∧ out = []) ∨ (k = 1 ∧ m = n1 ∧ out = l1) ∨ (k = 2 ∧ m = n1 + n2 ∧ out = l1 ++ l2))) (fun _ i _ => 2 - (intOf i).toNat)
      case atStart => exact ⟨0, 0, A3, c3, [], by omega, rfl, rfl, HO3, HB3, Lib.hid (Or.inl ⟨rfl, rfl, rfl⟩)⟩
      case round =>
        clear HO3 HB3
        obtain ⟨w0, rfl⟩ : ∃ w0 : World, w0 = wr := ⟨_, rfl⟩
        obtain ⟨k, m, A4, c4, out, hk, rfl, rfl, ho4, hb4, hkm⟩ := hrel
        have hwz := hb4.out.size
        rcases hkm.out with ⟨rfl, rfl, rfl⟩ | ⟨rfl, rfl, rfl⟩ | ⟨rfl, hm, hout⟩
        · obtain ⟨q0, _⟩ := HC.out _ hb4.out
          have HRA := Lib.hid (HR1.out.below hb4.out)
          have HON := Lib.hid (one_strs l1)
          go_wp2_with (at_builtin; refine wpList_append_row _ rfl _ _ 44 rfl _ 9 i0 _ 1 16 Tryz.underlying44 hi0 hz0 hz1 hz2 rfl (by omega) (.slice A4 0 c4) 0 _ rfl ho4.out _ A1 n1 c1 _ rfl HRA.out e1 HON.out (by unfold maxLen; omega) (by omega) hwz ?_; intro v7 w7 ho7 hg7 hv7)
          have HB7 := Lib.hid (hb4.out.grown hg7 hwz (fun j hj => (ho4.out.lt _ hj).1))
          obtain ⟨A7, c7, hv⟩ := own_shape ho7
          subst hv
          go_roundw
          case rel => exact ⟨1, 0 + n1, A7, c7, l1, by omega, by go_num, rfl, Lib.hid (by simpa using ho7), HB7, Lib.hid (Or.inr (Or.inl ⟨rfl, by omega, rfl⟩))⟩
          case measure => simp [intOf]
        · obtain ⟨_, q0⟩ := HC.out _ hb4.out
          have HRA := Lib.hid (HR2.out.below hb4.out)
          have HON := Lib.hid (one_strs l2)
          go_wp2_with (at_builtin; refine wpList_append_row _ rfl _ _ 44 rfl _ 9 i0 _ 1 16 Tryz.underlying44 hi0 hz0 hz1 hz2 rfl (by omega) (.slice A4 m c4) m _ rfl ho4.out _ A2 n2 c2 _ rfl HRA.out e2 HON.out (by unfold maxLen; omega) (by omega) hwz ?_; intro v7 w7 ho7 hg7 hv7)
          have HB7 := Lib.hid (hb4.out.grown hg7 hwz (fun j hj => (ho4.out.lt _ hj).1))
          obtain ⟨A7, c7, hv⟩ := own_shape ho7
          subst hv
          go_roundw
          case rel => exact ⟨2, m + n2, A7, c7, out ++ l2, by omega, by go_num, rfl, Lib.hid (by rw [List.map_append]; exact ho7), HB7, Lib.hid (Or.inr (Or.inr ⟨rfl, rfl, rfl⟩))⟩
          case measure => simp [intOf]
        · have HM := Lib.hid hm
          have HOU := Lib.hid hout
          clear hm hout hkm
          go_wp2_with fail
          go_ret
          refine ⟨A4, c4, by rw [HM.out]; rfl, ?_, hb4.out⟩
          rw [← HM.out, ← HOU.out]
          exact ho4.out

end Go.Proofs.YtdcinodbgbkobaaGreatDoor

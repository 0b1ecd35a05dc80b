/- rule.some, rule.every: rows of parts made flat. -/
import Derived.Test.YtpgbgeofhcpocaaGreatDoorRuN
namespace Go.Proofs.YtpgbgeofhcpocaaGreatDoor
open Go.RowKit Go.Maps Go.Shelf
set_option linter.unusedVariables false

theorem nd_info : (Tryz.prog.info? 49).map (fun i => (i.zero, i.size, i.bytes)) = some (some .nilIface, 1, 16) := by kernel_rfl
theorem one_nd (w : World) (v : Value) (e : TypeId) {n : Nat} (hn : w.heap.size = n) : RowIn (w.alloc (.cells #[v] e)) (n + 1) 1 (some ⟨n, 0, none⟩) 1 [v] := by
  subst hn
  refine ⟨rfl, Or.inr ⟨w.heap.size, 0, rfl, by omega, fun j u hu => ?_⟩⟩
  rw [(Blk.new w e _).cell]
  rw [← hu, Nat.zero_add]
  simp
theorem PartsOk.at {w : World} {B M : Nat} {vs : List Value} (h : PartsOk w B vs M) : ∀ {k : Nat} {v : Value}, vs[k]? = some v → ∃ N, Okv w B N v := by
  induction h with
  | nil => intro k v hv; simp at hv
  | @snoc vs M N u h hu ih =>
    intro k v hv
    by_cases hk : k < vs.length
    · rw [List.getElem?_append_left hk] at hv
      exact ih hv
    · rw [List.getElem?_append_right (by omega)] at hv
      have := List.mem_of_getElem? hv
      rw [List.mem_singleton] at this
      subst this
      exact ⟨N, hu⟩
theorem PartsOk.take {w : World} {B M : Nat} {vs : List Value} (h : PartsOk w B vs M) (k : Nat) : ∃ M', PartsOk w B (vs.take k) M' ∧ M' ≤ M := by
  induction h with
  | nil => exact ⟨0, by rw [List.take_nil]; exact .nil, Nat.le_refl _⟩
  | @snoc vs M N u h hu ih =>
    by_cases hk : k ≤ vs.length
    · obtain ⟨M', h1, h2⟩ := ih
      exact ⟨M', by rw [List.take_append_of_le_length hk]; exact h1, by omega⟩
    · exact ⟨M + N, by rw [List.take_of_length_le (by simp; omega)]; exact .snoc h hu, Nat.le_refl _⟩
theorem parts_few {w : World} {B M : Nat} {vs : List Value} (h : PartsOk w B vs M) : vs.length ≤ M := by
  induction h with
  | nil => simp
  | snoc h hu ih => have := hu.1; simp; omega
theorem und_row (k : Nat) (hk : k < 2) : ∃ fs, Tryz.prog.underlying (rowT k) = some (.struct fs) := by
  rcases (show k = 0 ∨ k = 1 by omega) with rfl | rfl
  · exact ⟨_, Tryz.underlying73⟩
  · exact ⟨_, Tryz.underlying75⟩
theorem zero_row (k : Nat) (hk : k < 2) (V : World) : (zeroValue (rowT k)).run Tryz.prog V = .ok (.agg #[.slice none 0 0]) V := by
  rcases (show k = 0 ∨ k = 1 by omega) with rfl | rfl <;> kernel_rfl
theorem ta_hit (k : Nat) (hk : k < 2) (x : Value) (V : World) {t : TypeId} : (Instr.typeAssert (.iface (rowT k) x) t (rowT k) true).run Tryz.prog V = .ok (.tuple #[x, .bool true]) V := by
  obtain ⟨fs, hf⟩ := und_row k hk
  simp [Instr.typeAssert, run_underlying hf]
theorem ta_miss (k : Nat) (hk : k < 2) (v : Value) (hv : v = .nilIface ∨ ∃ t x, v = .iface t x) (hno : ∀ x, v ≠ .iface (rowT k) x) (V : World) {t : TypeId} : (Instr.typeAssert v t (rowT k) true).run Tryz.prog V = .ok (.tuple #[.agg #[.slice none 0 0], .bool false]) V := by
  obtain ⟨fs, hf⟩ := und_row k hk
  rcases hv with rfl | ⟨t', x, rfl⟩
  · simp [Instr.typeAssert, run_underlying hf, zero_row k hk]
  · have hne : t' ≠ rowT k := fun e => hno x (by rw [e])
    simp [Instr.typeAssert, run_underlying hf, zero_row k hk, hne]

set_option maxHeartbeats 4000000 in
set_option maxRecDepth 100000 in
theorem some_any (B n c M : Nat) (A : Option Addr) (vs : List Value) (w : World) (hrow : RowV w B A n c vs) (hn1 : 1 ≤ n) (hp : PartsOk w B vs M) (hM : M ≤ 100000) (hB : B ≤ w.heap.size) :
    Calls Tryz.prog 22 #[.slice A n c] w fun e w' => ∃ v us, e = .returned v ∧ Flat w B 0 vs us ∧ Below w.heap.size w w' ∧ (us = [v] ∨ (2 ≤ us.length ∧ ∃ A' c', v = .iface (rowT 0) (.agg #[.slice A' us.length c']) ∧ RowV w' B A' us.length c' us)) := by
  obtain ⟨i0, hi0, hz0, hz1, hz2⟩ := info_parts nd_info
  have HROW := Lib.hid hrow
  have HP := Lib.hid hp
  have HONE := Lib.hid hrow.one
  have hnM : n ≤ 100000 := by have := parts_few hp; have := hrow.len; omega
  obtain ⟨g, o, rfl, hg, hc⟩ := hrow.row.at (by omega)
  have HCL : Hid (∀ V, Below w.heap.size w V → ∀ (j : Nat) u, vs[j]? = some u → V.cell? ⟨g, o + j, none⟩ = some u) := Lib.hid (fun V hV j u hu => (hV.cell (p := ⟨g, o + j, none⟩) hg).trans (hc j u hu))
  clear hrow hp hc
  go_enter Tryz.func22, Tryz.ntmps22
  go_wp2_with fail
  go_loopw [3, 10] (fun v i wr => ∃ (k m c5 : Nat) (A5 : Option Addr) (us : List Value), k ≤ n ∧ i = .int .i64 k ∧ v = .slice A5 m c5 ∧ Hid (us.length = m) ∧ m ≤ M ∧ Hid (∀ u ∈ us, u.oneCell' = true) ∧ Hid (wr.ownsRow w.heap.size 49 1 (.slice A5 m c5) m us) ∧ Hid (Flat w B 0 (vs.take k) us) ∧ Hid (Below w.heap.size w wr)) (fun _ i _ => n - (intOf i).toNat)
  case atStart => exact ⟨0, 0, 0, none, [], Nat.zero_le _, rfl, rfl, Lib.hid rfl, Nat.zero_le _, Lib.hid (fun u hu => by simp at hu), Lib.hid ⟨by simp, Or.inl ⟨rfl, rfl⟩⟩, Lib.hid Flat.nil, Lib.hid (Below.refl _ _)⟩
  case round =>
    obtain ⟨k, m, c5, A5, us, hk, rfl, rfl, hm, hmM, hone, hown, hfl, hbw⟩ := hrel
    have hwz := hbw.out.size
    have hk9 : (0 : Int) ≤ (k : Int) := by omega
    by_cases hlt : k < n
    · have hk8 : (k : Int) < (n : Int) := by omega
      obtain ⟨v, hv⟩ : ∃ v, vs[k]? = some v := ⟨_, List.getElem?_eq_getElem (by rw [HROW.out.len]; exact hlt)⟩
      have e0 := HCL.out wr hbw.out k v hv
      have HTK : Hid (vs.take (k + 1) = vs.take k ++ [v]) := Lib.hid (by rw [List.take_add_one, hv]; rfl)
      have HFEW : Hid (∀ us', Flat w B 0 (vs.take (k + 1)) us' → us'.length ≤ M) := Lib.hid (fun us' h => by
        obtain ⟨M', hM', hle⟩ := HP.out.take (k + 1)
        have := (h.few (by omega) hM').1
        omega)
      obtain ⟨N, hok⟩ := HP.out.at hv
      have HV1 : Hid (v.oneCell' = true) := Lib.hid hok.2.1
      clear hv
      by_cases hhit : ∃ A1 m1 c1, v = .iface (rowT 0) (.agg #[.slice A1 m1 c1])
      · obtain ⟨A1, m1, c1, rfl⟩ := hhit
        have hrv : ∃ xs, RowV w B A1 m1 c1 xs := by
          obtain ⟨_, _, h2 | ⟨t, x, e, h3, h4⟩ | ⟨k', A', m', c', xs', hk', e, hr', hm', hm2⟩⟩ := hok
          · cases h2
          · injection e with e1 _
            exact absurd e1.symm h3
          · injection e with e1 e2
            have e3 : (#[Value.slice A1 m1 c1] : Array Value) = #[.slice A' m' c'] := by injection e2
            have e4 : Value.slice A1 m1 c1 = .slice A' m' c' := by simpa using e3
            injection e4 with e5 e6 e7
            subst e5 e6 e7
            exact ⟨xs', hr'⟩
        obtain ⟨xs, hxs⟩ := hrv
        have HXS := Lib.hid hxs
        have HFL : Hid (Flat w B 0 (vs.take (k + 1)) (us ++ xs)) := Lib.hid (by rw [HTK.out]; exact hfl.out.row hxs)
        have hta : ∀ V, (Instr.typeAssert (.iface (rowT 0) (.agg #[.slice A1 m1 c1])) 49 73 true).run Tryz.prog V = .ok (.tuple #[.agg #[.slice A1 m1 c1], .bool true]) V := fun V => ta_hit 0 (by omega) _ V
        have hxl : m + m1 ≤ M := by
          have := HFEW.out _ HFL.out
          rw [List.length_append, hm.out, hxs.len] at this
          exact this
        obtain ⟨v0, hv0⟩ : ∃ v0 : Value, .iface (rowT 0) (.agg #[.slice A1 m1 c1]) = v0 := ⟨_, rfl⟩
        rw [hv0] at e0 hta
        have HR1 : Hid (RowIn (wr.alloc (.cells #[.slice A1 m1 c1] 73)) w.heap.size 1 A1 m1 xs) := Lib.hid ((hxs.row.below hbw.out).alloc hwz _)
        clear hxs hok hv0
        go_wp2_with (first
          | (at_builtin; refine wpList_append_row _ rfl _ _ 65 rfl w.heap.size 49 i0 _ 1 16 Tryz.underlying65 hi0 hz0 hz1 hz2 rfl (by omega) (.slice A5 m c5) m _ rfl (hown.out.alloc _) w.heap.size A1 m1 c1 xs rfl HR1.out HXS.out.nc HXS.out.one (by unfold maxLen; omega) (by omega) (by simp; omega) ?_; intro v7 w7 ho7 hg7 hv7))
        obtain ⟨A7, c7, hr7⟩ := own_shape ho7
        subst hr7
        go_wp2_with fail
        go_roundw
        case rel =>
          refine ⟨k + 1, m + m1, c7, A7, us ++ xs, by omega, by go_num, rfl, Lib.hid (by rw [List.length_append, hm.out, HXS.out.len]), hxl, Lib.hid (fun u hu => ?_), Lib.hid ho7, HFL, Lib.hid ((hbw.out.alloc hwz _).grown hg7 (by simp; omega) (fun j hj => (hown.out.lt _ hj).1))⟩
          rcases List.mem_append.1 hu with hu | hu
          · exact hone.out u hu
          · exact HXS.out.one u hu
        case measure => simp [intOf]; omega
      · have hno : ∀ x, v ≠ .iface (rowT 0) x := fun x e => by
          obtain ⟨_, _, h2 | ⟨t, y, e', h3, h4⟩ | ⟨k', A', m', c', xs', hk', e', hr', hm', hm2⟩⟩ := hok
          · rw [h2] at e; cases e
          · rw [e'] at e
            injection e with e1 _
            exact absurd e1 h3
          · rw [e'] at e
            injection e with e1 e2
            obtain rfl := rowT_inj hk' (by omega) e1
            exact hhit ⟨_, _, _, e'⟩
        have HFL : Hid (Flat w B 0 (vs.take (k + 1)) (us ++ [v])) := Lib.hid (by rw [HTK.out]; exact hfl.out.one hno)
        have hta : ∀ V, (Instr.typeAssert v 49 73 true).run Tryz.prog V = .ok (.tuple #[.agg #[.slice none 0 0], .bool false]) V := fun V => ta_miss 0 (by omega) v (by
          obtain ⟨_, _, h2 | ⟨t, y, e', _⟩ | ⟨k', A', m', c', xs', _, e', _⟩⟩ := hok
          · exact Or.inl h2
          · exact Or.inr ⟨_, _, e'⟩
          · exact Or.inr ⟨_, _, e'⟩) hno V
        have hxl : m + 1 ≤ M := by
          have := HFEW.out _ HFL.out
          rw [List.length_append, hm.out] at this
          exact this
        have HV2 : Hid (∀ u ∈ [v], u.oneCell' = true) := Lib.hid (fun u hu => by simp at hu; subst hu; exact HV1.out)
        have hform : v = .nilIface ∨ ∃ t x, v = .iface t x := by
          obtain ⟨_, _, h2 | ⟨t, y, e', _⟩ | ⟨k', A', m', c', xs', _, e', _⟩⟩ := hok
          · exact Or.inl h2
          · exact Or.inr ⟨_, _, e'⟩
          · exact Or.inr ⟨_, _, e'⟩
        rcases hform with rfl | ⟨t, x, rfl⟩
        · clear hno hhit hok
          go_wp2_with (first
            | (at_builtin; refine wpList_append_row _ rfl _ _ 65 rfl w.heap.size 49 i0 _ 1 16 Tryz.underlying65 hi0 hz0 hz1 hz2 rfl (by omega) (.slice A5 m c5) m _ rfl ((hown.out.alloc _).alloc _) (wr.heap.size + 1 + 1) (some ⟨wr.heap.size + 1, 0, none⟩) 1 1 [.nilIface] rfl (one_nd (wr.alloc _) .nilIface _ (by simp)) (fun h => by cases h) HV2.out (by unfold maxLen; omega) (by omega) (by simp; omega) ?_; intro v7 w7 ho7 hg7 hv7))
          obtain ⟨A7, c7, hr7⟩ := own_shape ho7
          subst hr7
          go_wp2_with fail
          go_roundw
          case rel =>
            refine ⟨k + 1, m + 1, c7, A7, us ++ [.nilIface], by omega, by go_num, rfl, Lib.hid (by rw [List.length_append, hm.out]; rfl), hxl, Lib.hid (fun u hu => ?_), Lib.hid ho7, HFL, Lib.hid (((hbw.out.alloc hwz _).alloc (by simp; omega) _).grown hg7 (by simp; omega) (fun j hj => (hown.out.lt _ hj).1))⟩
            rcases List.mem_append.1 hu with hu | hu
            · exact hone.out u hu
            · exact HV2.out u hu
          case measure => simp [intOf]; omega
        · clear hno hhit hok
          go_wp2_with (first
            | (at_builtin; refine wpList_append_row _ rfl _ _ 65 rfl w.heap.size 49 i0 _ 1 16 Tryz.underlying65 hi0 hz0 hz1 hz2 rfl (by omega) (.slice A5 m c5) m _ rfl ((hown.out.alloc _).alloc _) (wr.heap.size + 1 + 1) (some ⟨wr.heap.size + 1, 0, none⟩) 1 1 [.iface t x] rfl (one_nd (wr.alloc _) (.iface t x) _ (by simp)) (fun h => by cases h) HV2.out (by unfold maxLen; omega) (by omega) (by simp; omega) ?_; intro v7 w7 ho7 hg7 hv7))
          obtain ⟨A7, c7, hr7⟩ := own_shape ho7
          subst hr7
          go_wp2_with fail
          go_roundw
          case rel =>
            refine ⟨k + 1, m + 1, c7, A7, us ++ [.iface t x], by omega, by go_num, rfl, Lib.hid (by rw [List.length_append, hm.out]; rfl), hxl, Lib.hid (fun u hu => ?_), Lib.hid ho7, HFL, Lib.hid (((hbw.out.alloc hwz _).alloc (by simp; omega) _).grown hg7 (by simp; omega) (fun j hj => (hown.out.lt _ hj).1))⟩
            rcases List.mem_append.1 hu with hu | hu
            · exact hone.out u hu
            · exact HV2.out u hu
          case measure => simp [intOf]; omega
    · obtain rfl : k = n := by omega
      have HFL : Hid (Flat w B 0 vs us) := Lib.hid (by have := hfl.out; rw [List.take_of_length_le (by rw [HROW.out.len]; exact Nat.le_refl _)] at this; exact this)
      have hmk : k ≤ m := by
        have := (HFL.out.few (by omega) HP.out).2.1
        rw [hm.out, HROW.out.len] at this
        exact this
      by_cases h1 : m = 1
      · subst h1
        obtain ⟨u, hu⟩ : ∃ u, us = [u] := List.length_eq_one_iff.1 hm.out
        obtain ⟨g7, cap, hv7, _, hgl⟩ := hown.out.form (by omega)
        injection hv7 with hA _ _
        subst hA
        have e0 : wr.cell? ⟨g7, 0, none⟩ = some u := by
          have := hown.out.cells (g := g7) rfl 0 u (by rw [hu]; rfl)
          rw [at_add, Nat.zero_add] at this
          exact this
        have HU := Lib.hid hu
        clear hu
        go_wp2_with fail
        go_ret
        exact ⟨u, rfl, us, HFL.out, hbw.out, Or.inl HU.out⟩
      · have h2 : ¬ (m : Int) = 1 := by omega
        have HFIN : Hid (RowV wr B A5 m c5 us) := Lib.hid (by
          refine ⟨RowIn.of_own hown.out, hm.out, fun g' o' e => ?_, fun e => ?_, hone.out⟩
          · have := (hown.out.lt g' (by rw [e]; rfl)).1
            omega
          · obtain ⟨g7, cap, hv7, _⟩ := hown.out.form (by omega)
            injection hv7 with hA _ _
            rw [e] at hA
            cases hA)
        go_wp2_with fail
        go_ret
        refine ⟨_, us, rfl, HFL.out, hbw.out, Or.inr ⟨by rw [hm.out]; omega, A5, c5, ?_, by rw [hm.out]; exact HFIN.out⟩⟩
        rw [hm.out]
        rfl

set_option maxHeartbeats 4000000 in
set_option maxRecDepth 100000 in
theorem every_any (B n c M : Nat) (A : Option Addr) (vs : List Value) (w : World) (hrow : RowV w B A n c vs) (hn1 : 1 ≤ n) (hp : PartsOk w B vs M) (hM : M ≤ 100000) (hB : B ≤ w.heap.size) :
    Calls Tryz.prog 35 #[.slice A n c] w fun e w' => ∃ v us, e = .returned v ∧ Flat w B 1 vs us ∧ Below w.heap.size w w' ∧ (us = [v] ∨ (2 ≤ us.length ∧ ∃ A' c', v = .iface (rowT 1) (.agg #[.slice A' us.length c']) ∧ RowV w' B A' us.length c' us)) := by
  obtain ⟨i0, hi0, hz0, hz1, hz2⟩ := info_parts nd_info
  have HROW := Lib.hid hrow
  have HP := Lib.hid hp
  have HONE := Lib.hid hrow.one
  have hnM : n ≤ 100000 := by have := parts_few hp; have := hrow.len; omega
  obtain ⟨g, o, rfl, hg, hc⟩ := hrow.row.at (by omega)
  have HCL : Hid (∀ V, Below w.heap.size w V → ∀ (j : Nat) u, vs[j]? = some u → V.cell? ⟨g, o + j, none⟩ = some u) := Lib.hid (fun V hV j u hu => (hV.cell (p := ⟨g, o + j, none⟩) hg).trans (hc j u hu))
  clear hrow hp hc
  go_enter Tryz.func35, Tryz.ntmps35
  go_wp2_with fail
  go_loopw [3, 10] (fun v i wr => ∃ (k m c5 : Nat) (A5 : Option Addr) (us : List Value), k ≤ n ∧ i = .int .i64 k ∧ v = .slice A5 m c5 ∧ Hid (us.length = m) ∧ m ≤ M ∧ Hid (∀ u ∈ us, u.oneCell' = true) ∧ Hid (wr.ownsRow w.heap.size 49 1 (.slice A5 m c5) m us) ∧ Hid (Flat w B 1 (vs.take k) us) ∧ Hid (Below w.heap.size w wr)) (fun _ i _ => n - (intOf i).toNat)
  case atStart => exact ⟨0, 0, 0, none, [], Nat.zero_le _, rfl, rfl, Lib.hid rfl, Nat.zero_le _, Lib.hid (fun u hu => by simp at hu), Lib.hid ⟨by simp, Or.inl ⟨rfl, rfl⟩⟩, Lib.hid Flat.nil, Lib.hid (Below.refl _ _)⟩
  case round =>
    obtain ⟨k, m, c5, A5, us, hk, rfl, rfl, hm, hmM, hone, hown, hfl, hbw⟩ := hrel
    have hwz := hbw.out.size
    have hk9 : (0 : Int) ≤ (k : Int) := by omega
    by_cases hlt : k < n
    · have hk8 : (k : Int) < (n : Int) := by omega
      obtain ⟨v, hv⟩ : ∃ v, vs[k]? = some v := ⟨_, List.getElem?_eq_getElem (by rw [HROW.out.len]; exact hlt)⟩
      have e0 := HCL.out wr hbw.out k v hv
      have HTK : Hid (vs.take (k + 1) = vs.take k ++ [v]) := Lib.hid (by rw [List.take_add_one, hv]; rfl)
      have HFEW : Hid (∀ us', Flat w B 1 (vs.take (k + 1)) us' → us'.length ≤ M) := Lib.hid (fun us' h => by
        obtain ⟨M', hM', hle⟩ := HP.out.take (k + 1)
        have := (h.few (by omega) hM').1
        omega)
      obtain ⟨N, hok⟩ := HP.out.at hv
      have HV1 : Hid (v.oneCell' = true) := Lib.hid hok.2.1
      clear hv
      by_cases hhit : ∃ A1 m1 c1, v = .iface (rowT 1) (.agg #[.slice A1 m1 c1])
      · obtain ⟨A1, m1, c1, rfl⟩ := hhit
        have hrv : ∃ xs, RowV w B A1 m1 c1 xs := by
          obtain ⟨_, _, h2 | ⟨t, x, e, h3, h4⟩ | ⟨k', A', m', c', xs', hk', e, hr', hm', hm2⟩⟩ := hok
          · cases h2
          · injection e with e1 _
            exact absurd e1.symm h4
          · injection e with e1 e2
            have e3 : (#[Value.slice A1 m1 c1] : Array Value) = #[.slice A' m' c'] := by injection e2
            have e4 : Value.slice A1 m1 c1 = .slice A' m' c' := by simpa using e3
            injection e4 with e5 e6 e7
            subst e5 e6 e7
            exact ⟨xs', hr'⟩
        obtain ⟨xs, hxs⟩ := hrv
        have HXS := Lib.hid hxs
        have HFL : Hid (Flat w B 1 (vs.take (k + 1)) (us ++ xs)) := Lib.hid (by rw [HTK.out]; exact hfl.out.row hxs)
        have hta : ∀ V, (Instr.typeAssert (.iface (rowT 1) (.agg #[.slice A1 m1 c1])) 49 75 true).run Tryz.prog V = .ok (.tuple #[.agg #[.slice A1 m1 c1], .bool true]) V := fun V => ta_hit 1 (by omega) _ V
        have hxl : m + m1 ≤ M := by
          have := HFEW.out _ HFL.out
          rw [List.length_append, hm.out, hxs.len] at this
          exact this
        obtain ⟨v0, hv0⟩ : ∃ v0 : Value, .iface (rowT 1) (.agg #[.slice A1 m1 c1]) = v0 := ⟨_, rfl⟩
        rw [hv0] at e0 hta
        have HR1 : Hid (RowIn (wr.alloc (.cells #[.slice A1 m1 c1] 75)) w.heap.size 1 A1 m1 xs) := Lib.hid ((hxs.row.below hbw.out).alloc hwz _)
        clear hxs hok hv0
        go_wp2_with (first
          | (at_builtin; refine wpList_append_row _ rfl _ _ 65 rfl w.heap.size 49 i0 _ 1 16 Tryz.underlying65 hi0 hz0 hz1 hz2 rfl (by omega) (.slice A5 m c5) m _ rfl (hown.out.alloc _) w.heap.size A1 m1 c1 xs rfl HR1.out HXS.out.nc HXS.out.one (by unfold maxLen; omega) (by omega) (by simp; omega) ?_; intro v7 w7 ho7 hg7 hv7))
        obtain ⟨A7, c7, hr7⟩ := own_shape ho7
        subst hr7
        go_wp2_with fail
        go_roundw
        case rel =>
          refine ⟨k + 1, m + m1, c7, A7, us ++ xs, by omega, by go_num, rfl, Lib.hid (by rw [List.length_append, hm.out, HXS.out.len]), hxl, Lib.hid (fun u hu => ?_), Lib.hid ho7, HFL, Lib.hid ((hbw.out.alloc hwz _).grown hg7 (by simp; omega) (fun j hj => (hown.out.lt _ hj).1))⟩
          rcases List.mem_append.1 hu with hu | hu
          · exact hone.out u hu
          · exact HXS.out.one u hu
        case measure => simp [intOf]; omega
      · have hno : ∀ x, v ≠ .iface (rowT 1) x := fun x e => by
          obtain ⟨_, _, h2 | ⟨t, y, e', h3, h4⟩ | ⟨k', A', m', c', xs', hk', e', hr', hm', hm2⟩⟩ := hok
          · rw [h2] at e; cases e
          · rw [e'] at e
            injection e with e1 _
            exact absurd e1 h4
          · rw [e'] at e
            injection e with e1 e2
            obtain rfl := rowT_inj hk' (by omega) e1
            exact hhit ⟨_, _, _, e'⟩
        have HFL : Hid (Flat w B 1 (vs.take (k + 1)) (us ++ [v])) := Lib.hid (by rw [HTK.out]; exact hfl.out.one hno)
        have hta : ∀ V, (Instr.typeAssert v 49 75 true).run Tryz.prog V = .ok (.tuple #[.agg #[.slice none 0 0], .bool false]) V := fun V => ta_miss 1 (by omega) v (by
          obtain ⟨_, _, h2 | ⟨t, y, e', _⟩ | ⟨k', A', m', c', xs', _, e', _⟩⟩ := hok
          · exact Or.inl h2
          · exact Or.inr ⟨_, _, e'⟩
          · exact Or.inr ⟨_, _, e'⟩) hno V
        have hxl : m + 1 ≤ M := by
          have := HFEW.out _ HFL.out
          rw [List.length_append, hm.out] at this
          exact this
        have HV2 : Hid (∀ u ∈ [v], u.oneCell' = true) := Lib.hid (fun u hu => by simp at hu; subst hu; exact HV1.out)
        have hform : v = .nilIface ∨ ∃ t x, v = .iface t x := by
          obtain ⟨_, _, h2 | ⟨t, y, e', _⟩ | ⟨k', A', m', c', xs', _, e', _⟩⟩ := hok
          · exact Or.inl h2
          · exact Or.inr ⟨_, _, e'⟩
          · exact Or.inr ⟨_, _, e'⟩
        rcases hform with rfl | ⟨t, x, rfl⟩
        · clear hno hhit hok
          go_wp2_with (first
            | (at_builtin; refine wpList_append_row _ rfl _ _ 65 rfl w.heap.size 49 i0 _ 1 16 Tryz.underlying65 hi0 hz0 hz1 hz2 rfl (by omega) (.slice A5 m c5) m _ rfl ((hown.out.alloc _).alloc _) (wr.heap.size + 1 + 1) (some ⟨wr.heap.size + 1, 0, none⟩) 1 1 [.nilIface] rfl (one_nd (wr.alloc _) .nilIface _ (by simp)) (fun h => by cases h) HV2.out (by unfold maxLen; omega) (by omega) (by simp; omega) ?_; intro v7 w7 ho7 hg7 hv7))
          obtain ⟨A7, c7, hr7⟩ := own_shape ho7
          subst hr7
          go_wp2_with fail
          go_roundw
          case rel =>
            refine ⟨k + 1, m + 1, c7, A7, us ++ [.nilIface], by omega, by go_num, rfl, Lib.hid (by rw [List.length_append, hm.out]; rfl), hxl, Lib.hid (fun u hu => ?_), Lib.hid ho7, HFL, Lib.hid (((hbw.out.alloc hwz _).alloc (by simp; omega) _).grown hg7 (by simp; omega) (fun j hj => (hown.out.lt _ hj).1))⟩
            rcases List.mem_append.1 hu with hu | hu
            · exact hone.out u hu
            · exact HV2.out u hu
          case measure => simp [intOf]; omega
        · clear hno hhit hok
          go_wp2_with (first
            | (at_builtin; refine wpList_append_row _ rfl _ _ 65 rfl w.heap.size 49 i0 _ 1 16 Tryz.underlying65 hi0 hz0 hz1 hz2 rfl (by omega) (.slice A5 m c5) m _ rfl ((hown.out.alloc _).alloc _) (wr.heap.size + 1 + 1) (some ⟨wr.heap.size + 1, 0, none⟩) 1 1 [.iface t x] rfl (one_nd (wr.alloc _) (.iface t x) _ (by simp)) (fun h => by cases h) HV2.out (by unfold maxLen; omega) (by omega) (by simp; omega) ?_; intro v7 w7 ho7 hg7 hv7))
          obtain ⟨A7, c7, hr7⟩ := own_shape ho7
          subst hr7
          go_wp2_with fail
          go_roundw
          case rel =>
            refine ⟨k + 1, m + 1, c7, A7, us ++ [.iface t x], by omega, by go_num, rfl, Lib.hid (by rw [List.length_append, hm.out]; rfl), hxl, Lib.hid (fun u hu => ?_), Lib.hid ho7, HFL, Lib.hid (((hbw.out.alloc hwz _).alloc (by simp; omega) _).grown hg7 (by simp; omega) (fun j hj => (hown.out.lt _ hj).1))⟩
            rcases List.mem_append.1 hu with hu | hu
            · exact hone.out u hu
            · exact HV2.out u hu
          case measure => simp [intOf]; omega
    · obtain rfl : k = n := by omega
      have HFL : Hid (Flat w B 1 vs us) := Lib.hid (by have := hfl.out; rw [List.take_of_length_le (by rw [HROW.out.len]; exact Nat.le_refl _)] at this; exact this)
      have hmk : k ≤ m := by
        have := (HFL.out.few (by omega) HP.out).2.1
        rw [hm.out, HROW.out.len] at this
        exact this
      by_cases h1 : m = 1
      · subst h1
        obtain ⟨u, hu⟩ : ∃ u, us = [u] := List.length_eq_one_iff.1 hm.out
        obtain ⟨g7, cap, hv7, _, hgl⟩ := hown.out.form (by omega)
        injection hv7 with hA _ _
        subst hA
        have e0 : wr.cell? ⟨g7, 0, none⟩ = some u := by
          have := hown.out.cells (g := g7) rfl 0 u (by rw [hu]; rfl)
          rw [at_add, Nat.zero_add] at this
          exact this
        have HU := Lib.hid hu
        clear hu
        go_wp2_with fail
        go_ret
        exact ⟨u, rfl, us, HFL.out, hbw.out, Or.inl HU.out⟩
      · have h2 : ¬ (m : Int) = 1 := by omega
        have HFIN : Hid (RowV wr B A5 m c5 us) := Lib.hid (by
          refine ⟨RowIn.of_own hown.out, hm.out, fun g' o' e => ?_, fun e => ?_, hone.out⟩
          · have := (hown.out.lt g' (by rw [e]; rfl)).1
            omega
          · obtain ⟨g7, cap, hv7, _⟩ := hown.out.form (by omega)
            injection hv7 with hA _ _
            rw [e] at hA
            cases hA)
        go_wp2_with fail
        go_ret
        refine ⟨_, us, rfl, HFL.out, hbw.out, Or.inr ⟨by rw [hm.out]; omega, A5, c5, ?_, by rw [hm.out]; exact HFIN.out⟩⟩
        rw [hm.out]
        rfl
end Go.Proofs.YtpgbgeofhcpocaaGreatDoor

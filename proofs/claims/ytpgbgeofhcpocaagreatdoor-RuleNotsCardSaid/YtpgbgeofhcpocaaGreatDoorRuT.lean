/- A rule's own text: strings.Join; rule.text, rule.list, rule.within. -/
import Derived.Test.YtpgbgeofhcpocaaGreatDoorRuR
import Derived.Test.YtpgbgeofhcpocaaGreatDoorLay5
import Derived.Shelf.Strings.OnBuilder
import Derived.Lib.AppendIntMem
namespace Go.Proofs.YtpgbgeofhcpocaaGreatDoor
open Go.RowKit Go.Maps Go.Shelf
set_option linter.unusedVariables false

theorem bx : Builder.Extra Tryz.prog Tryz.lays156_ren where
  sizeBuilder := by kernel_rfl
  liesBuilder := by kernel_rfl
  t5 := Tryz.underlying5
  a5 := Tryz.isAgg5
  z5 := Tryz.sizeOf5
  v5 := Tryz.zeroValue5
  infoByte := by kernel_rfl
  cellsByte := by kernel_rfl
  sizeByte := by kernel_rfl
  neB5 := by decide
theorem join_any (bk o c : Nat) (xs : List ByteArray) (sep : ByteArray) (w : World) (hcells : ∀ (j : Nat) x, xs[j]? = some x → w.cell? ⟨bk, o + j, none⟩ = some (.string x)) (hbk : bk < w.heap.size) (hN : xs.length ≤ 140737488355328) (hcap : xs.length ≤ c) (hlen : (Lib.join (xs.map (·.data.toList)) sep.data.toList).length ≤ 140737488355328) :
    Calls Tryz.prog 37 #[.slice (some ⟨bk, o, none⟩) xs.length c, .string sep] w fun e w' => e = .returned (.string ⟨(Lib.join (xs.map (·.data.toList)) sep.data.toList).toArray⟩) ∧ Below w.heap.size w w' :=
  Any.strings_Join Tryz.lays156 bx bk o c xs sep w hcells hbk hN hcap hlen
def ownB (n : Nd) (wi : Nat) : ByteArray := ⟨(ownN n wi).toArray⟩
def sepB (k : Nat) : ByteArray := ⟨(sepW k).toArray⟩
theorem own_join (k : Nat) : ∀ l : List Nd, ownL l k = Lib.join (l.map (fun n => ownN n (k + 1))) (sepW k)
  | [] => rfl
  | n :: l => by
    have h : ∀ l : List Nd, ownM l k = Lib.joinTail (sepW k) (l.map (fun n => ownN n (k + 1))) := by
      intro l
      induction l with
      | nil => rfl
      | cons n l ih =>
        rw [ownM, ih]
        simp [Lib.joinTail]
    rw [ownL, List.map_cons, Lib.join_cons, h]
theorem ownN_pos {n : Nd} (h : NF n) : ∀ wi, 1 ≤ (ownN n wi).length := by
  induction h with
  | @atom a h =>
    intro wi
    rw [ownN]
    cases a with
    | follows => simp [leafT, followsW]
    | done => simp [leafT, doneW]
    | tag x => simp only [leafT, ba_app, List.length_append]; simp [tagW]; omega
    | maker x => simp only [leafT, ba_app, List.length_append]; simp [makerW]; omega
    | num k less n => simp only [leafT, ba_app, List.length_append]; rcases sign_cases less with ⟨e, _⟩ | ⟨e, _⟩ <;> rw [e] <;> simp <;> omega
  | no h ih => intro wi; rw [ownN]; simp; omega
  | @row k l hk h hf hl ih =>
    intro wi
    cases l with
    | nil => simp at hl
    | cons n l =>
      have := ih n (by simp) (k + 1)
      rw [ownN]
      split <;> simp [ownL] <;> omega
theorem ownM_len {k : Nat} : ∀ {l : List Nd}, (∀ n ∈ l, NF n) → l.length ≤ (ownM l k).length ∧ ∀ n ∈ l, (ownN n (k + 1)).length ≤ (ownM l k).length
  | [], _ => by simp
  | n :: l, h => by
    obtain ⟨h1, h2⟩ := ownM_len (k := k) (l := l) (fun n hn => h n (by simp [hn]))
    have h3 := ownN_pos (h n (by simp)) (k + 1)
    rw [ownM]
    simp only [List.length_append, List.length_cons]
    refine ⟨by omega, fun m hm => ?_⟩
    rcases List.mem_cons.1 hm with rfl | hm
    · omega
    · have := h2 m hm; omega
theorem ownL_len {k : Nat} {l : List Nd} (h : ∀ n ∈ l, NF n) : l.length ≤ (ownL l k).length ∧ ∀ n ∈ l, (ownN n (k + 1)).length ≤ (ownL l k).length := by
  cases l with
  | nil => simp
  | cons n l =>
    obtain ⟨h1, h2⟩ := ownM_len (k := k) (l := l) (fun n hn => h n (by simp [hn]))
    have h3 := ownN_pos (h n (by simp)) (k + 1)
    rw [ownL]
    simp only [List.length_append, List.length_cons]
    refine ⟨by omega, fun m hm => ?_⟩
    rcases List.mem_cons.1 hm with rfl | hm
    · omega
    · have := h2 m hm; omega
def TextOk (n : Nd) : Prop := ∀ (B : Nat) (v : Value) (w : World), NdAt w B n v → TabAt w → Calls Tryz.prog 17 #[v] w fun e w' => e = .returned (.string (ownB n 0)) ∧ Below w.heap.size w w'
def ListOk (k : Nat) (l : List Nd) : Prop := ∀ (B : Nat) (A : Option Addr) (m c : Nat) (xs : List Value) (w : World), RowV w B A m c xs → l.length = m → (∀ (i : Nat) n v, l[i]? = some n → xs[i]? = some v → NdAt w B n v) → TabAt w → Calls Tryz.prog 27 #[.slice A m c, .string (sepB k)] w fun e w' => e = .returned (.string ⟨(ownL l k).toArray⟩) ∧ Below w.heap.size w w'
theorem nd_form {w : World} {B : Nat} {n : Nd} {v : Value} (h : NdAt w B n v) : (∃ a, n = .atom a ∧ v = leafV a) ∨ (∃ m u, n = .no m ∧ v = .iface 77 (.agg #[u]) ∧ NdAt w B m u) ∨ ∃ k l A m c xs, n = .row k l ∧ v = .iface (rowT k) (.agg #[.slice A m c]) ∧ RowV w B A m c xs ∧ l.length = m ∧ ∀ (i : Nat) n v, l[i]? = some n → xs[i]? = some v → NdAt w B n v := by
  cases h with
  | atom a => exact Or.inl ⟨a, rfl, rfl⟩
  | no h => exact Or.inr (Or.inl ⟨_, _, rfl, rfl, h⟩)
  | row hr hl h => exact Or.inr (Or.inr ⟨_, _, _, _, _, _, rfl, rfl, hr, hl, h⟩)

theorem ta_yes {T : TypeId} (hf : ∃ fs, Tryz.prog.underlying T = some (.struct fs)) (x : Value) (V : World) {t : TypeId} : (Instr.typeAssert (.iface T x) t T true).run Tryz.prog V = .ok (.tuple #[x, .bool true]) V := by
  obtain ⟨fs, hf⟩ := hf
  simp [Instr.typeAssert, run_underlying hf]
theorem ta_not {T : TypeId} {z : Value} (hf : ∃ fs, Tryz.prog.underlying T = some (.struct fs)) (hz : ∀ V, (zeroValue T).run Tryz.prog V = .ok z V) {T' : TypeId} (hn : T' ≠ T) (x : Value) (V : World) {t : TypeId} : (Instr.typeAssert (.iface T' x) t T true).run Tryz.prog V = .ok (.tuple #[z, .bool false]) V := by
  obtain ⟨fs, hf⟩ := hf
  simp [Instr.typeAssert, run_underlying hf, hz, hn]
theorem zEither (V : World) : (zeroValue 73).run Tryz.prog V = .ok (.agg #[.slice none 0 0]) V := by kernel_rfl
theorem zBoth (V : World) : (zeroValue 75).run Tryz.prog V = .ok (.agg #[.slice none 0 0]) V := by kernel_rfl
theorem zNo (V : World) : (zeroValue 77).run Tryz.prog V = .ok (.agg #[.nilIface]) V := by kernel_rfl
theorem zNamed (V : World) : (zeroValue 79).run Tryz.prog V = .ok (.agg #[.string ⟨#[]⟩, .string ⟨#[]⟩]) V := by kernel_rfl
theorem zNumber (V : World) : (zeroValue 81).run Tryz.prog V = .ok (.agg #[.string ⟨#[]⟩, .bool false, .int .i64 0]) V := by kernel_rfl

set_option maxHeartbeats 4000000 in
set_option maxRecDepth 100000 in
theorem within_of (n : Nd) (hnf : NF n) (hsz : (ownN n 0).length ≤ 1000000) (hT : TextOk n) (B : Nat) (v : Value) (w : World) (hv : NdAt w B n v) (ht : TabAt w) :
    Calls Tryz.prog 28 #[v] w fun e w' => e = .returned (.string (ownB n 3)) ∧ Below w.heap.size w w' := by
  have HT := Lib.hid (hT B v w hv ht)
  have key : (∃ T x, v = .iface T x ∧ T ≠ 73 ∧ T ≠ 75 ∧ ownB n 3 = ownB n 0) ∨ (∃ k x, k < 2 ∧ v = .iface (rowT k) x ∧ ownB n 3 = ⟨#[40]⟩ ++ ownB n 0 ++ ⟨#[41]⟩) := by
    rcases nd_form hv with ⟨a, rfl, rfl⟩ | ⟨m, u, rfl, rfl, hu⟩ | ⟨k, l, A, m, c, xs, rfl, rfl, hr, hl, h⟩
    · cases a <;> exact Or.inl ⟨_, _, rfl, by decide, by decide, rfl⟩
    · exact Or.inl ⟨_, _, rfl, by decide, by decide, rfl⟩
    · have hk : k < 2 := by cases hnf; assumption
      refine Or.inr ⟨k, _, hk, rfl, ?_⟩
      refine ba_ext ?_
      rw [ba_app, ba_app]
      unfold ownB
      rw [ownN, ownN, if_pos (by omega), if_neg (by omega)]
      simp
  clear hT hv
  rcases key with ⟨T, x, rfl, h1, h2, hE⟩ | ⟨k, x, hk, rfl, hE⟩
  · have hta1 : ∀ V, (Instr.typeAssert (.iface T x) 49 73 true).run Tryz.prog V = .ok (.tuple #[.agg #[.slice none 0 0], .bool false]) V := fun V => ta_not ⟨_, Tryz.underlying73⟩ zEither h1 x V
    have hta2 : ∀ V, (Instr.typeAssert (.iface T x) 49 75 true).run Tryz.prog V = .ok (.tuple #[.agg #[.slice none 0 0], .bool false]) V := fun V => ta_not ⟨_, Tryz.underlying75⟩ zBoth h2 x V
    rw [hE]
    clear hE
    go_enter Tryz.func28, Tryz.ntmps28
    go_wp2_with fail
    refine HT.out.mono ?_
    rintro e w1 ⟨rfl, hb⟩
    go_wp2_with fail
    go_ret
    exact ⟨rfl, hb⟩
  · have hE' := Lib.hid hE
    have hsb : (ownB n 0).size ≤ 1000000 := by rw [show (ownB n 0).size = (ownN n 0).length from by simp [ownB, ByteArray.size]]; exact hsz
    obtain ⟨ob, hob⟩ : ∃ ob, ownB n 0 = ob := ⟨_, rfl⟩
    rw [hob] at hsb
    have hadd1 : ∀ (u : World), (Op.stringOp .add ⟨#[40]⟩ ob).run Tryz.prog u = .ok (.string (⟨#[40]⟩ ++ ob)) u := fun u => run_string_add_sum _ _ _ (by show 1 + ob.size ≤ 9223372036854775807; omega)
    have hadd2 : ∀ (u : World), (Op.stringOp .add (⟨#[40]⟩ ++ ob) ⟨#[41]⟩).run Tryz.prog u = .ok (.string (⟨#[40]⟩ ++ ob ++ ⟨#[41]⟩)) u := fun u => run_string_add_sum _ _ _ (by rw [ByteArray.size_append]; show 1 + ob.size + 1 ≤ 9223372036854775807; omega)
    obtain ⟨oc, hoc⟩ : ∃ oc, ownB n 3 = oc := ⟨_, rfl⟩
    rw [hob] at HT hE'
    rw [hoc] at hE' ⊢
    clear hE hob hoc
    rcases (show k = 0 ∨ k = 1 by omega) with rfl | rfl
    · have hta1 : ∀ V, (Instr.typeAssert (.iface 73 x) 49 73 true).run Tryz.prog V = .ok (.tuple #[x, .bool true]) V := fun V => ta_yes ⟨_, Tryz.underlying73⟩ x V
      have hta2 : ∀ V, (Instr.typeAssert (.iface 73 x) 49 75 true).run Tryz.prog V = .ok (.tuple #[.agg #[.slice none 0 0], .bool false]) V := fun V => ta_not ⟨_, Tryz.underlying75⟩ zBoth (by decide) x V
      rw [show rowT 0 = 73 from rfl] at *
      go_enter Tryz.func28, Tryz.ntmps28
      go_wp2_with fail
      refine HT.out.mono ?_
      rintro e w1 ⟨rfl, hb⟩
      go_wp2_with fail
      go_ret
      rw [hE'.out]
      exact ⟨rfl, hb⟩
    · have hta1 : ∀ V, (Instr.typeAssert (.iface 75 x) 49 73 true).run Tryz.prog V = .ok (.tuple #[.agg #[.slice none 0 0], .bool false]) V := fun V => ta_not ⟨_, Tryz.underlying73⟩ zEither (by decide) x V
      have hta2 : ∀ V, (Instr.typeAssert (.iface 75 x) 49 75 true).run Tryz.prog V = .ok (.tuple #[x, .bool true]) V := fun V => ta_yes ⟨_, Tryz.underlying75⟩ x V
      rw [show rowT 1 = 75 from rfl] at *
      go_enter Tryz.func28, Tryz.ntmps28
      go_wp2_with fail
      refine HT.out.mono ?_
      rintro e w1 ⟨rfl, hb⟩
      go_wp2_with fail
      go_ret
      rw [hE'.out]
      exact ⟨rfl, hb⟩

theorem st_info : (Tryz.prog.info? 9).map (fun i => (i.zero, i.size, i.bytes)) = some (some (.string ⟨#[]⟩), 1, 16) := by kernel_rfl
/-- How a part of a row is written. -/
theorem part_form {k : Nat} (hk : k < 2) {w : World} {B : Nat} {n : Nd} {v : Value} (hv : NdAt w B n v) (hnf : NF n) (hf : ∀ l', n ≠ .row k l') :
    (∃ A m c, v = .iface 75 (.agg #[.slice A m c]) ∧ ownB n 0 = ownB n (k + 1)) ∨ (∃ T x, v = .iface T x ∧ T ≠ 75 ∧ ownB n 3 = ownB n (k + 1)) := by
  rcases nd_form hv with ⟨a, rfl, rfl⟩ | ⟨m, u, rfl, rfl, hu⟩ | ⟨k', l, A, m, c, xs, rfl, rfl, hr, hl, h⟩
  · cases a <;> exact Or.inr ⟨_, _, rfl, by decide, rfl⟩
  · exact Or.inr ⟨_, _, rfl, by decide, rfl⟩
  · have hk' : k' < 2 := by cases hnf; assumption
    have hne : k' ≠ k := fun e => hf l (by rw [e])
    rcases (show k' = 0 ∧ k = 1 ∨ k' = 1 ∧ k = 0 by omega) with ⟨rfl, rfl⟩ | ⟨rfl, rfl⟩
    · refine Or.inr ⟨_, _, rfl, by decide, ?_⟩
      unfold ownB
      rw [ownN, ownN, if_pos (by omega), if_pos (by omega)]
    · refine Or.inl ⟨_, _, _, rfl, ?_⟩
      unfold ownB
      rw [ownN, ownN, if_neg (by omega), if_neg (by omega)]

set_option maxHeartbeats 4000000 in
set_option maxRecDepth 100000 in
theorem list_of (k : Nat) (hk : k < 2) (l : List Nd) (hl2 : 2 ≤ l.length) (hnf : ∀ n ∈ l, NF n) (hf : ∀ n ∈ l, ∀ l', n ≠ .row k l') (hsz : (ownL l k).length ≤ 1000000) (hz : ∀ n ∈ l, (ownN n 0).length ≤ 1000000) (hT : ∀ n ∈ l, TextOk n) : ListOk k l := by
  intro B A m c xs w hr hlm hnd htab
  obtain ⟨i0, hi0, hz0, hz1, hz2⟩ := info_parts st_info
  have HT := Lib.hid hT
  have HNF := Lib.hid hnf
  have HF := Lib.hid hf
  have HZ := Lib.hid hz
  have HTAB : Hid (∀ V, Below w.heap.size w V → TabAt V) := Lib.hid (fun V hV => htab.keep hV)
  have HND : Hid (∀ (i : Nat) n v, l[i]? = some n → xs[i]? = some v → ∀ V, Below w.heap.size w V → NdAt V B n v) := Lib.hid (fun i n v hn hv V hV => (hnd i n v hn hv).under hV)
  have HLM := Lib.hid hlm
  have HXL := Lib.hid hr.len
  have hml : m ≤ 1000000 := by have := (ownL_len (k := k) hnf).1; omega
  have HJN : Hid (Lib.join ((l.map (fun n => ownB n (k + 1))).map (·.data.toList)) (sepB k).data.toList = ownL l k) := Lib.hid (by rw [own_join, List.map_map]; rfl)
  have HSZ := Lib.hid hsz
  have hm2 : 2 ≤ m := by omega
  obtain ⟨g, o, rfl, hg, hc⟩ := hr.row.at (by omega)
  have HCL : Hid (∀ V, Below w.heap.size w V → ∀ (j : Nat) u, xs[j]? = some u → V.cell? ⟨g, o + j, none⟩ = some u) := Lib.hid (fun V hV j u hu => (hV.cell (p := ⟨g, o + j, none⟩) hg).trans (hc j u hu))
  obtain ⟨sp, hsp⟩ : ∃ sp, sepB k = sp := ⟨_, rfl⟩
  rw [hsp] at HJN ⊢
  clear hr hc hT hnf hf hz hnd htab hlm hsz hsp hl2
  go_enter Tryz.func27, Tryz.ntmps27
  go_wp2_with fail
  go_loopw [5, 12] (fun v i wr => ∃ (q c5 : Nat) (A5 : Option Addr), q ≤ m ∧ i = .int .i64 q ∧ v = .slice A5 q c5 ∧ Hid (wr.ownsRow w.heap.size 9 1 (.slice A5 q c5) q ((l.take q).map (fun n => .string (ownB n (k + 1))))) ∧ Hid (Below w.heap.size w wr)) (fun _ i _ => m - (intOf i).toNat)
  case atStart => exact ⟨0, 0, none, Nat.zero_le _, rfl, rfl, Lib.hid ⟨by simp, Or.inl ⟨rfl, rfl⟩⟩, Lib.hid (Below.refl _ _)⟩
  case round =>
    obtain ⟨q, c5, A5, hq, rfl, rfl, hown, hbw⟩ := hrel
    have hwz := hbw.out.size
    have hq9 : (0 : Int) ≤ (q : Int) := by omega
    by_cases hlt : q < m
    · have hq8 : (q : Int) < (m : Int) := by omega
      obtain ⟨v, hv⟩ : ∃ v, xs[q]? = some v := ⟨_, List.getElem?_eq_getElem (by rw [HXL.out]; exact hlt)⟩
      obtain ⟨n, hn⟩ : ∃ n, l[q]? = some n := ⟨_, List.getElem?_eq_getElem (by rw [HLM.out]; exact hlt)⟩
      have e0 := HCL.out wr hbw.out q v hv
      have hmem := List.mem_of_getElem? hn
      have hvn := HND.out q n v hn hv wr hbw.out
      have HTK : Hid ((l.take (q + 1)).map (fun n => Value.string (ownB n (k + 1))) = (l.take q).map (fun n => Value.string (ownB n (k + 1))) ++ [.string (ownB n (k + 1))]) := Lib.hid (by rw [List.take_add_one, hn, List.map_append]; rfl)
      have HV1 : Hid (∀ u ∈ [Value.string (ownB n (k + 1))], u.oneCell' = true) := Lib.hid (fun u hu => by simp at hu; subst hu; rfl)
      rcases part_form hk hvn (HNF.out n hmem) (HF.out n hmem) with ⟨A1, m1, c1, rfl, hE⟩ | ⟨T, x, rfl, hT1, hE⟩
      · have hta2 : ∀ V, (Instr.typeAssert (.iface 75 (.agg #[.slice A1 m1 c1])) 49 75 true).run Tryz.prog V = .ok (.tuple #[.agg #[.slice A1 m1 c1], .bool true]) V := fun V => ta_yes ⟨_, Tryz.underlying75⟩ _ V
        have hb1 : Below wr.heap.size wr (wr.alloc (.cells #[.slice A1 m1 c1] 75)) := (Below.refl _ _).alloc (Nat.le_refl _) _
        have HTX := Lib.hid (HT.out n hmem B _ _ (hvn.under hb1) (HTAB.out _ (hbw.out.trans (hb1.mono hwz))))
        have HO1 := Lib.hid (own_below hown.out hb1)
        have HB1 : Hid (Below w.heap.size w (wr.alloc (.cells #[.slice A1 m1 c1] 75))) := Lib.hid (hbw.out.trans (hb1.mono hwz))
        rw [hE] at HTX
        clear hvn hv hn hmem hE hb1
        go_wp2_with fail
        refine HTX.out.mono ?_
        rintro e w3 ⟨rfl, hb3⟩
        have HO3 := Lib.hid (own_below HO1.out hb3)
        have HB3 : Hid (Below w.heap.size w w3) := Lib.hid (HB1.out.trans (hb3.mono HB1.out.size))
        have hw3 := HB3.out.size
        clear hb3 HTX
        go_wp2_with (first
          | (at_builtin; refine wpList_append_row _ rfl _ _ 39 rfl w.heap.size 9 i0 _ 1 16 Tryz.underlying39 hi0 hz0 hz1 hz2 rfl (by omega) (.slice A5 q c5) q _ rfl (HO3.out.alloc _) (w3.heap.size + 1) (some ⟨w3.heap.size, 0, none⟩) 1 1 [.string (ownB n (k + 1))] rfl (one_nd w3 _ _ rfl) (fun h => by cases h) HV1.out (by unfold maxLen; omega) (by omega) (by simp; omega) ?_; intro v7 w7 ho7 hg7 hv7))
        obtain ⟨A7, c7, hr7⟩ := own_shape ho7
        subst hr7
        go_wp2_with fail
        go_roundw
        case rel => exact ⟨q + 1, c7, A7, by omega, by go_num, rfl, Lib.hid (by rw [HTK.out]; exact ho7), Lib.hid ((HB3.out.alloc hw3 _).grown hg7 (by simp; omega) (fun j hj => (HO3.out.lt _ hj).1))⟩
        case measure => simp [intOf]; omega
      · have hta2 : ∀ V, (Instr.typeAssert (.iface T x) 49 75 true).run Tryz.prog V = .ok (.tuple #[.agg #[.slice none 0 0], .bool false]) V := fun V => ta_not ⟨_, Tryz.underlying75⟩ zBoth hT1 x V
        have hb1 : Below wr.heap.size wr (wr.alloc (.cells #[.slice none 0 0] 75)) := (Below.refl _ _).alloc (Nat.le_refl _) _
        have HTX := Lib.hid (within_of n (HNF.out n hmem) (HZ.out n hmem) (HT.out n hmem) B _ _ (hvn.under hb1) (HTAB.out _ (hbw.out.trans (hb1.mono hwz))))
        have HO1 := Lib.hid (own_below hown.out hb1)
        have HB1 : Hid (Below w.heap.size w (wr.alloc (.cells #[.slice none 0 0] 75))) := Lib.hid (hbw.out.trans (hb1.mono hwz))
        rw [hE] at HTX
        clear hvn hv hn hmem hE hb1
        go_wp2_with fail
        refine HTX.out.mono ?_
        rintro e w3 ⟨rfl, hb3⟩
        have HO3 := Lib.hid (own_below HO1.out hb3)
        have HB3 : Hid (Below w.heap.size w w3) := Lib.hid (HB1.out.trans (hb3.mono HB1.out.size))
        have hw3 := HB3.out.size
        clear hb3 HTX
        go_wp2_with (first
          | (at_builtin; refine wpList_append_row _ rfl _ _ 39 rfl w.heap.size 9 i0 _ 1 16 Tryz.underlying39 hi0 hz0 hz1 hz2 rfl (by omega) (.slice A5 q c5) q _ rfl (HO3.out.alloc _) (w3.heap.size + 1) (some ⟨w3.heap.size, 0, none⟩) 1 1 [.string (ownB n (k + 1))] rfl (one_nd w3 _ _ rfl) (fun h => by cases h) HV1.out (by unfold maxLen; omega) (by omega) (by simp; omega) ?_; intro v7 w7 ho7 hg7 hv7))
        obtain ⟨A7, c7, hr7⟩ := own_shape ho7
        subst hr7
        go_wp2_with fail
        go_roundw
        case rel => exact ⟨q + 1, c7, A7, by omega, by go_num, rfl, Lib.hid (by rw [HTK.out]; exact ho7), Lib.hid ((HB3.out.alloc hw3 _).grown hg7 (by simp; omega) (fun j hj => (HO3.out.lt _ hj).1))⟩
        case measure => simp [intOf]; omega
    · obtain rfl : q = m := by omega
      have htk : l.take q = l := List.take_of_length_le (by rw [HLM.out]; exact Nat.le_refl _)
      rw [htk] at hown
      obtain ⟨g7, cap, hv7, _, hgl⟩ := hown.out.form (by omega)
      injection hv7 with hA _ hcap
      subst hA hcap
      have HJ := Lib.hid (join_any g7 0 c5 (l.map (fun n => ownB n (k + 1))) sp wr (fun j x hx => by
        have := hown.out.cells (g := g7) rfl j (.string x) (by
          rw [List.getElem?_map] at hx ⊢
          cases hy : l[j]? with
          | none => rw [hy] at hx; cases hx
          | some y => rw [hy] at hx; simp at hx; subst hx; rfl)
        rw [at_add] at this
        exact this) hgl (by rw [List.length_map, HLM.out]; omega) (by
        rw [List.length_map, HLM.out]
        rcases hown.out.2 with ⟨h, h0⟩ | ⟨g, cap, cur, h, _, _, hcap, _⟩
        · omega
        · injection h with _ _ h; omega) (by rw [HJN.out]; have := HSZ.out; omega))
      rw [HJN.out, List.length_map, HLM.out] at HJ
      go_wp2_with fail
      refine HJ.out.mono ?_
      rintro e w3 ⟨rfl, hb3⟩
      have HB3 : Hid (Below w.heap.size w w3) := Lib.hid (hbw.out.trans (hb3.mono hwz))
      clear hb3 HJ
      go_wp2_with fail
      go_ret
      exact ⟨rfl, HB3.out⟩
end Go.Proofs.YtpgbgeofhcpocaaGreatDoor

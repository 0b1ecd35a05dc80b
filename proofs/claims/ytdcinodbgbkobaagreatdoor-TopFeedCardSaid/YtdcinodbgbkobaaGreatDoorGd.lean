/- Changes of the program: the ticks of a thing, each once. few, made and awake of the laws. awake of the laws; CatalogStays: the walk. Rising names; slices.Sort of names. -/
import Derived.Test.YtdcinodbgbkobaaGreatDoorCatApply
import Derived.Test.YtdcinodbgbkobaaGreatDoorLay2
import Derived.Lib.SlicesCompact
import Derived.IntWalk
import Derived.Sort.Walk0
import Derived.Shelf.Sort.Plain
import Derived.Shelf.Slices.In.SortNone
namespace Go.Proofs.YtdcinodbgbkobaaGreatDoor
section
open Go.Shelf Go.RowKit Go.Maps
set_option linter.unusedVariables false

theorem snoc_ind {α : Type} {p : List α → Prop} (l : List α) (nil : p []) (snoc : ∀ l a, p l → p (l ++ [a])) : p l := by
  have : ∀ r : List α, p r.reverse := by
    intro r
    induction r with
    | nil => exact nil
    | cons a r ih => rw [List.reverse_cons]; exact snoc _ _ ih
  have h := this l.reverse
  rwa [List.reverse_reverse] at h

/-- Each once, of a row in which equal ones stand together. -/
def chgStep (out : List Int) (z : Int) : List Int := if out.getLast? = some z then out else out ++ [z]
def chgL (l : List Int) : List Int := l.foldl chgStep []
theorem chgL_snoc (l : List Int) (z : Int) : chgL (l ++ [z]) = if (chgL l).getLast? = some z then chgL l else chgL l ++ [z] := by
  unfold chgL
  rw [List.foldl_append]
  rfl
theorem chgL_last (l : List Int) : (chgL l).getLast? = l.getLast? := by
  induction l using snoc_ind with
  | nil => rfl
  | snoc l z ih =>
    rw [chgL_snoc, List.getLast?_concat]
    split
    · assumption
    · rw [List.getLast?_concat]
theorem chgL_mem (l : List Int) (z : Int) : z ∈ chgL l ↔ z ∈ l := by
  induction l using snoc_ind with
  | nil => rfl
  | snoc l y ih =>
    rw [chgL_snoc]
    split
    · rename_i h
      rw [ih, List.mem_append]
      constructor
      · exact Or.inl
      · rintro (h1 | h1)
        · exact h1
        · obtain rfl : z = y := by simpa using h1
          rw [chgL_last] at h
          exact List.mem_of_getLast? h
    · rw [List.mem_append, ih, List.mem_append]
theorem chgL_len (l : List Int) : (chgL l).length ≤ l.length := by
  induction l using snoc_ind with
  | nil => exact Nat.le_refl _
  | snoc l y ih =>
    rw [chgL_snoc]
    split <;> simp <;> omega
theorem chgL_rise {l : List Int} (h : l.Pairwise (· ≤ ·)) : (chgL l).Pairwise (· < ·) := by
  induction l using snoc_ind with
  | nil => exact List.Pairwise.nil
  | snoc l y ih =>
    rw [List.pairwise_append] at h
    have ih := ih h.1
    rw [chgL_snoc]
    split
    · exact ih
    · rename_i hn
      rw [List.pairwise_append]
      refine ⟨ih, List.pairwise_singleton _ _, fun a ha b hb => ?_⟩
      obtain rfl : b = y := by simpa using hb
      cases hl : (chgL l).getLast? with
      | none => rw [List.getLast?_eq_none_iff] at hl; rw [hl] at ha; cases ha
      | some m =>
        have hm : m ≤ b := h.2.2 m (by rw [← chgL_mem]; exact List.mem_of_getLast? hl) b (by simp)
        have hne : m ≠ b := fun e => hn (by rw [hl, e])
        obtain ⟨ys, hy⟩ := List.getLast?_eq_some_iff.1 hl
        rw [hy] at ha ih
        rcases List.mem_append.1 ha with h1 | h1
        · have := (List.pairwise_append.1 ih).2.2 a h1 m (by simp)
          omega
        · obtain rfl : a = m := by simpa using h1
          omega
theorem chgL_head (l : List Int) : (chgL l).head? = l.head? := by
  induction l using snoc_ind with
  | nil => rfl
  | snoc l y ih =>
    rw [chgL_snoc]
    cases l with
    | nil => rfl
    | cons a l =>
      have : chgL (a :: l) ≠ [] := fun e => by
        have := (chgL_mem (a :: l) a).2 (by simp)
        rw [e] at this; cases this
      split
      · rw [ih]; rfl
      · cases hc : chgL (a :: l) with
        | nil => exact absurd hc this
        | cons b t => rw [hc] at ih; simpa using ih
theorem compact_upto (zs : List Int) : ∀ m, m ≤ zs.length → Lib.compactUpTo zs.toArray m = chgL (zs.take m)
  | 0, _ => by simp [Lib.compactUpTo, chgL]
  | m + 1, h => by
    rw [Lib.compactUpTo_succ, compact_upto zs m (by omega)]
    have hm : zs[m]? = some (zs[m]'(by omega)) := List.getElem?_eq_getElem _
    have hd : zs.toArray[m]! = zs[m]'(by omega) := by simp [show m < zs.length from by omega]
    rw [List.take_add_one, hm, Option.toList_some, chgL_snoc, chgL_last]
    rcases Nat.eq_zero_or_pos m with h0 | h0
    · subst h0
      rw [Lib.keeps_lt_one _ 0 (by omega), if_pos rfl, hd]
      simp
    · have hm1 : zs[m - 1]? = some (zs[m - 1]'(by omega)) := List.getElem?_eq_getElem _
      have hd1 : zs.toArray[m - 1]! = zs[m - 1]'(by omega) := by simp [show m - 1 < zs.length from by omega]
      have hlast : (zs.take m).getLast? = some (zs[m - 1]'(by omega)) := by
        rw [List.getLast?_eq_getElem?, List.length_take, Nat.min_eq_left (by omega), List.getElem?_take_of_lt (by omega), hm1]
      rw [hlast]
      by_cases he : zs[m]'(by omega) = zs[m - 1]'(by omega)
      · rw [Lib.keeps_neg h0 (by rw [hd, hd1, he]), if_neg (by simp), he, if_pos rfl, List.append_nil]
      · rw [Lib.keeps_pos (by rw [hd, hd1]; exact he), if_pos rfl, if_neg (fun e => he (Option.some.inj e).symm), hd]
theorem compact_is (zs : List Int) : Lib.compact zs = chgL zs := by
  unfold Lib.compact
  rw [compact_upto zs zs.length (Nat.le_refl _), List.take_length]

theorem frozen_own {w : World} {base e size n c : Nat} {g : Nat} {xs : List Value} (h : w.ownsRow base e size (.slice (some ⟨g, 0, none⟩) n c) n xs) : ∀ j, w.frozen? ⟨g, j, none⟩ = false := by
  intro j
  rcases h.2 with ⟨h, _⟩ | ⟨g', cap', cur, h, _, hh, _⟩
  · cases h
  · injection h with h
    injection h with h
    injection h with h
    subst h
    simp [World.frozen?, hh]


theorem int_info : (Tryz.prog.info? 3).map (fun i => (i.zero, i.size, i.bytes)) = some (some (.int .i64 0), 1, 8) := by kernel_rfl
theorem one_int (w : World) (z : Int) (t : TypeId) : RowIn (w.alloc (.cells #[.int .i64 z] t)) (w.heap.size + 1) 1 (some ⟨w.heap.size, 0, none⟩) 1 [.int .i64 z] := by
  refine ⟨rfl, Or.inr ⟨w.heap.size, 0, rfl, by omega, fun j u hu => ?_⟩⟩
  rw [(Blk.new w t _).cell]
  rw [← hu, Nat.zero_add]
  simp

/-- The ticks of a thing's events, each once. -/
def chgP (es : List Ev) (n : ByteArray) : List Int := chgL ((rowOf es n).map (·.tick))


end

section
open Go.Shelf Go.RowKit Go.Maps
set_option linter.unusedVariables false

/-- Texts that a machine can hold. -/
def EvBd (e : Ev) : Prop := e.src.size ≤ 281474976710656 ∧ e.person.size ≤ 281474976710656 ∧ e.item.size ≤ 281474976710656 ∧ e.text.size ≤ 281474976710656
def EvFew (e : Ev) : Prop := e.src.size + e.person.size + e.item.size + e.text.size ≤ 600
theorem EvFew.sh {e : Ev} (h : EvFew e) : EvSh e := by unfold EvFew at h; unfold EvSh; omega


/-- Are all taken, one by one? -/
def madeFrom : List Ev → List Ev → Bool
  | _, [] => true
  | es, e :: r => takesB es e && madeFrom (es ++ [e]) r
def madeB (l : List Ev) : Bool := madeFrom [] l


def eX1 : Ev := ⟨⟨#[115]⟩, 1, 5, 11, ⟨#[]⟩, ⟨#[120]⟩, 3, ⟨#[109, 59]⟩⟩
def eX2 : Ev := ⟨⟨#[115]⟩, 2, 6, 12, ⟨#[]⟩, ⟨#[120]⟩, 7, ⟨#[]⟩⟩
theorem aw1 : takesB [] eX1 = true := by kernel_rfl
theorem aw2 : takesB [eX1] eX2 = true := by kernel_rfl
theorem aw3 : atP [eX1, eX2] ⟨#[120]⟩ 5 = some ⟨⟨#[120]⟩, ⟨#[109]⟩, ⟨#[]⟩, 0, 3, 5, true⟩ := by kernel_rfl
theorem aw4 : atP [eX1, eX2] ⟨#[120]⟩ 4 = none := by kernel_rfl

end

section
open Go.Shelf Go.RowKit Go.Maps
set_option linter.unusedVariables false

theorem ev_x1 : EvSh eX1 := by unfold EvSh; decide +kernel
theorem ev_x2 : EvSh eX2 := by unfold EvSh; decide +kernel
def itArr (x : It) : Array Value := #[.string x.name, .string x.maker, .string x.tags, .int .i64 x.stock, .int .i64 x.price, .int .i64 x.born, .bool x.listed]


end

section
open Go.Shelf Go.RowKit Go.Maps
set_option linter.unusedVariables false

def ltN (a b : ByteArray) : Prop := a.data.toList < b.data.toList
theorem ltN_irr (a : ByteArray) : ¬ ltN a a := List.lt_irrefl _
theorem ltN_trans {a b c : ByteArray} (h : ltN a b) (k : ltN b c) : ltN a c := List.lt_trans h k
theorem ba_eq {a b : ByteArray} (h : a.data.toList = b.data.toList) : a = b := by
  cases a; cases b
  exact congrArg _ (Array.toList_inj.1 h)
theorem ltN_of {a b : ByteArray} (h : ¬ ltN a b) (hne : a ≠ b) : ltN b a := by
  rcases List.le_total b.data.toList a.data.toList with h1 | h1
  · exact Std.lt_of_le_of_ne h1 (fun e => hne (ba_eq e.symm))
  · exact absurd (Std.lt_of_le_of_ne h1 (fun e => hne (ba_eq e))) h
theorem less_iff (a b : ByteArray) : Op.bytesLess a.toList b.toList = true ↔ ltN a b := by
  rw [bytesLess_eq, decide_eq_true_iff, Lib.toList_data, Lib.toList_data]
  exact Iff.rfl

/-- ks: just those of which f holds, rising. -/
def IsNames (f : ByteArray → Bool) (ks : List ByteArray) : Prop := ks.Pairwise ltN ∧ ∀ n, n ∈ ks ↔ f n = true
theorem IsNames.nodup {f : ByteArray → Bool} {ks : List ByteArray} (h : IsNames f ks) : ks.Nodup := by
  rw [List.nodup_iff_pairwise_ne]
  exact h.1.imp (fun hab e => by subst e; exact ltN_irr _ hab)
theorem IsNames.one {f g : ByteArray → Bool} {ks ks' : List ByteArray} (h : IsNames f ks) (h' : IsNames g ks') (he : ∀ n, f n = g n) : ks = ks' :=
  List.Perm.eq_of_pairwise (le := ltN) (fun a b _ _ h1 h2 => absurd (ltN_trans h1 h2) (ltN_irr _)) h.1 h'.1 ((List.perm_ext_iff_of_nodup h.nodup h'.nodup).2 (fun n => by rw [h.2, h'.2, he]))

/-- Sorted. -/
def sortN (l : List ByteArray) : List ByteArray := ((l.map fun x => x.data.toList).mergeSort fun x y => decide (x ≤ y)).map fun x => ⟨x.toArray⟩
theorem sortN_len (l : List ByteArray) : (sortN l).length = l.length := by simp [sortN, List.length_mergeSort]
theorem sortN_mem (l : List ByteArray) (n : ByteArray) : n ∈ sortN l ↔ n ∈ l := by
  unfold sortN
  rw [List.mem_map]
  constructor
  · rintro ⟨x, hx, rfl⟩
    rw [List.mem_mergeSort, List.mem_map] at hx
    obtain ⟨y, hy, rfl⟩ := hx
    exact hy
  · intro h
    exact ⟨n.data.toList, by rw [List.mem_mergeSort, List.mem_map]; exact ⟨n, h, rfl⟩, rfl⟩
theorem sortN_is {f : ByteArray → Bool} {l : List ByteArray} (hn : l.Nodup) (hm : ∀ n, n ∈ l ↔ f n = true) : IsNames f (sortN l) := by
  refine ⟨?_, fun n => by rw [sortN_mem]; exact hm n⟩
  unfold sortN
  rw [List.pairwise_map]
  have hs : ((l.map fun x => x.data.toList).mergeSort fun x y => decide (x ≤ y)).Pairwise (fun x y => decide (x ≤ y) = true) :=
    List.pairwise_mergeSort (fun a b c h1 h2 => by simp only [decide_eq_true_eq] at *; exact List.le_trans h1 h2) (fun a b => by simp only [Bool.or_eq_true, decide_eq_true_eq]; exact List.le_total a b) _
  have hnd : ((l.map fun x => x.data.toList).mergeSort fun x y => decide (x ≤ y)).Nodup := by
    rw [(List.mergeSort_perm _ _).nodup_iff]
    rw [List.nodup_iff_pairwise_ne, List.pairwise_map]
    exact (List.nodup_iff_pairwise_ne.1 hn).imp (fun hab e => hab (ba_eq e))
  refine (hs.and (List.nodup_iff_pairwise_ne.1 hnd)).imp ?_
  rintro a b ⟨h1, h2⟩
  show (⟨a.toArray⟩ : ByteArray).data.toList < (⟨b.toArray⟩ : ByteArray).data.toList
  exact Std.lt_of_le_of_ne (of_decide_eq_true h1) h2

theorem sort_any (w : World) (base : Nat) (A : Option Addr) (l : List ByteArray) (n c : Nat) (hn : l.length = n) (hl : w.ownsRow base 9 1 (.slice A n c) n (l.map .string)) (hb : n ≤ 1000000) :
    Calls Tryz.prog 28 #[.slice A n c] w fun e w' => e = .returned (.tuple #[]) ∧ RowIn w' w'.heap.size 1 A n ((sortN l).map .string) ∧ Below base w w' := by
  rcases Nat.eq_zero_or_pos n with h0 | h0
  · subst h0
    obtain rfl : l = [] := List.eq_nil_of_length_eq_zero hn
    refine (Any.slices_Sort_string_none Tryz.laysSortS A c w).mono ?_
    rintro e w' ⟨rfl, rfl⟩
    have hs : sortN [] = [] := by simp [sortN]
    rw [hs]
    exact ⟨rfl, RowIn.nil _ _ _ _, Below.refl _ _⟩
  · obtain ⟨g, cap, hv, hg, hlt⟩ := hl.form h0
    injection hv with hA _ hc
    subst hA
    subst hc
    have hcells := hl.cells (g := g) rfl
    have hH : Sort.Holds encStr w g 0 (l.map fun x => x.data.toList).toArray := by
      intro j hj
      have hj' : j < l.length := by simpa using hj
      have hgj : (l.map fun x => x.data.toList).toArray[j]! = l[j].data.toList := by simp [hj']
      refine ⟨?_, frozen_own hl _⟩
      rw [hgj]
      have := hcells j (.string l[j]) (by simp [hj'])
      rwa [at_add] at this
    have hcon := Any.slices_Sort_string Tryz.laysSortS g 0 c (l.map fun x => x.data.toList) w hH hlt (by simp; omega)
    rw [List.length_map, hn] at hcon
    refine hcon.mono ?_
    rintro e w' ⟨rfl, q, os, rfl⟩
    have hds : (((l.map fun x => x.data.toList).mergeSort fun x y => decide (x ≤ y)).toArray).size = (l.map fun x => x.data.toList).toArray.size := by simp [List.length_mergeSort]
    have hH2 := Sort.holds_grow encStr _ os g 0 _ (by rw [Sort.size_putRow]; exact hlt) (Sort.holds_putRow encStr (Sort.ahead w q) g 0 _ _ (Sort.holds_ahead encStr w q g 0 _ hH) hds)
    have hsz : w.heap.size ≤ (Sort.grow (Sort.putRow encStr (Sort.ahead w q) g 0 ((l.map fun x => x.data.toList).mergeSort fun x y => decide (x ≤ y)).toArray) os).heap.size := by
      show w.heap.size ≤ ((Sort.putRow encStr (Sort.ahead w q) g 0 _).heap ++ os).size
      rw [Array.size_append, Sort.size_putRow]
      exact Nat.le_add_right _ _
    refine ⟨rfl, ?_, ?_⟩
    · refine ⟨by simp [sortN_len, hn], Or.inr ⟨g, 0, rfl, Nat.lt_of_lt_of_le hlt hsz, fun j u hu => ?_⟩⟩
      obtain ⟨hj, rfl⟩ := List.getElem?_eq_some_iff.1 hu
      rw [List.length_map, sortN_len] at hj
      have h1 := (hH2 j (by rw [hds]; simpa using hj)).1
      rw [h1]
      simp [sortN, List.length_mergeSort, hj]
    · refine ⟨rfl, rfl, rfl, hsz, fun i hi => ?_⟩
      show ((Sort.putRow encStr (Sort.ahead w q) g 0 _).heap ++ os)[i]? = _
      rw [Array.getElem?_append_left (by rw [Sort.size_putRow]; show i < w.heap.size; omega)]
      simp only [Sort.putRow, Sort.mapBlock, Array.getElem?_modify]
      rw [if_neg (by omega)]
      rfl

end

end Go.Proofs.YtdcinodbgbkobaaGreatDoor

/- The document's place, Maker, behind. The document's At. Texts and Ints of the document. The document's put: a name into rising ones, once. The document's Names. CatalogFinds: the plain part. The document's Parts, Tags. Rows of a list, plain: which may be; what has to be told. -/
import Derived.Test.YtdcinodbgbkobaaGreatDoorGe
import Derived.Deep.RegionHeld3
namespace Go.Proofs.YtdcinodbgbkobaaGreatDoor
section
open Go.Shelf Go.RowKit Go.Maps
set_option linter.unusedVariables false

theorem idx_hit : ∀ (s : List UInt8) (k : Nat), s[k]? = some 59 → (∀ j b, j < k → s[j]? = some b → b ≠ 59) → Lib.index s [59] = k
  | [], k, h, _ => by simp at h
  | b :: s, 0, h, _ => by
    simp at h
    subst h
    simp [Lib.index]
  | b :: s, k + 1, h, hn => by
    have hb : b ≠ 59 := hn 0 b (by omega) rfl
    have ih := idx_hit s k (by simpa using h) (fun j c hj hc => hn (j + 1) c (by omega) (by simpa using hc))
    unfold Lib.index
    rw [ih]
    simp [List.isPrefixOf, Ne.symm hb]
theorem idx_miss : ∀ (s : List UInt8), (∀ (j : Nat) b, s[j]? = some b → b ≠ 59) → Lib.index s [59] = -1
  | [], _ => by simp [Lib.index]
  | b :: s, hn => by
    have hb : b ≠ 59 := hn 0 b rfl
    have ih := idx_miss s (fun j c hc => hn (j + 1) c (by simpa using hc))
    unfold Lib.index
    rw [ih]
    simp [List.isPrefixOf, Ne.symm hb]

/-- Where the first ; stands. -/
def semiAt (s : ByteArray) (k : Nat) : Prop := s.data.toList[k]? = some 59 ∧ ∀ j b, j < k → s.data.toList[j]? = some b → b ≠ 59
theorem cut_hit {s : ByteArray} {k : Nat} (h : semiAt s k) : headP s = s.extract 0 k ∧ restP s = s.extract (k + 1) s.size ∧ cutsP s = true := by
  have hi := idx_hit s.data.toList k h.1 h.2
  have hk := (List.getElem?_eq_some_iff.1 h.1).1
  unfold headP restP cutsP Lib.cut
  rw [hi, if_pos (by omega)]
  refine ⟨?_, ?_, rfl⟩
  · apply ba_eq
    simp
  · apply ba_eq
    simp
    exact (List.take_of_length_le (by simp)).symm
def semiNo (s : ByteArray) : Prop := ∀ (j : Nat) b, s.data.toList[j]? = some b → b ≠ 59
theorem cut_miss {s : ByteArray} (h : semiNo s) : headP s = s ∧ restP s = ⟨#[]⟩ ∧ cutsP s = false := by
  have hi := idx_miss s.data.toList h
  unfold headP restP cutsP Lib.cut
  rw [hi, if_neg (by omega)]
  exact ⟨ba_eq (by simp), rfl, rfl⟩




end

section
open Go.Shelf Go.RowKit Go.Maps
set_option linter.unusedVariables false

/-- The last state of a thing, of the events up to a tick. -/
def rst (l : List Ev) (nm : ByteArray) (t : Int) : Option St := (rowOf (l.filter fun e => decide (e.tick ≤ t)) nm).getLast?
theorem rst_snoc (l : List Ev) (x : Ev) (nm : ByteArray) (t : Int) : rst (l ++ [x]) nm t = if x.item = nm ∧ x.tick ≤ t then some (stepSt ((rst l nm t).getD (st0 nm)) x) else rst l nm t := by
  unfold rst
  rw [List.filter_append]
  by_cases h1 : x.tick ≤ t
  · rw [List.filter_cons_of_pos (by simpa using h1), List.filter_nil, rowOf_snoc]
    by_cases h2 : x.item = nm
    · rw [if_pos h2, if_pos ⟨h2, h1⟩, h2.symm]
      unfold rowStep
      rw [List.getLast?_concat]
    · rw [if_neg h2, if_neg (fun h => h2 h.1)]
  · rw [List.filter_cons_of_neg (by simpa using h1), List.filter_nil, List.append_nil, if_neg (fun h => h1 h.2)]
theorem fold_name (n : ByteArray) (l : List Ev) (h : ∀ e ∈ l, e.item = n) : ∀ r : List St, (∀ s ∈ r, s.item.name = n) → ∀ s ∈ l.foldl rowStep r, s.item.name = n := by
  induction l with
  | nil => intro r hr; exact hr
  | cons e l ih =>
    intro r hr
    rw [List.foldl_cons]
    refine ih (fun x hx => h x (List.mem_cons_of_mem _ hx)) _ (fun s hs => ?_)
    unfold rowStep at hs
    rcases List.mem_append.1 hs with hs | hs
    · exact hr s hs
    · obtain rfl : s = _ := by simpa using hs
      rw [stepSt_name]
      cases hl : r.getLast? with
      | none => exact h e (by simp)
      | some y => exact hr y (List.mem_of_getLast? hl)
theorem rst_name {l : List Ev} {nm : ByteArray} {t : Int} {s : St} (h : rst l nm t = some s) : s.item.name = nm := by
  unfold rst at h
  exact fold_name nm _ (fun e he => of_decide_eq_true (List.mem_filter.1 he).2) [] (fun s hs => by cases hs) s (List.mem_of_getLast? h)
def rx (o : Option St) : It := (o.map (·.item)).getD it0
def rb (o : Option St) : Bool := (o.map (·.isborn)).getD false
theorem set_name {l : List Ev} {nm : ByteArray} {t : Int} : (itArr (rx (rst l nm t))).setIfInBounds 0 (.string nm) = itArr ((rst l nm t).getD (st0 nm)).item := by
  cases h : rst l nm t with
  | none => simp [rx, itArr, it0, st0]
  | some s =>
    have := rst_name h
    simp [rx, itArr, this]
theorem rb_born (o : Option St) (nm : ByteArray) : rb o = (o.getD (st0 nm)).isborn := by
  cases o <;> rfl
theorem rstep12 {s : St} {x : Ev} (h : x.kind = 12) : (itArr s.item).setIfInBounds 3 (.int .i64 x.value) = itArr (stepSt s x).item := by
  simp [itArr, stepSt, h]
theorem rstep13 {s : St} {x : Ev} (h : x.kind = 13) : (itArr s.item).setIfInBounds 6 (.bool false) = itArr (stepSt s x).item := by
  simp [itArr, stepSt, h]
theorem rstep11t {s : St} {x : Ev} (h : x.kind = 11) (hb : s.isborn = true) : ((((itArr s.item).setIfInBounds 6 (.bool true)).setIfInBounds 1 (.string (headP x.text))).setIfInBounds 2 (.string (restP x.text))).setIfInBounds 4 (.int .i64 x.value) = itArr (stepSt s x).item := by
  simp [itArr, stepSt, h, hb]
theorem rstep11f {s : St} {x : Ev} (h : x.kind = 11) (hb : s.isborn = false) : (((((itArr s.item).setIfInBounds 6 (.bool true)).setIfInBounds 1 (.string (headP x.text))).setIfInBounds 2 (.string (restP x.text))).setIfInBounds 4 (.int .i64 x.value)).setIfInBounds 5 (.int .i64 x.tick) = itArr (stepSt s x).item := by
  simp [itArr, stepSt, h, hb]
theorem step_born {s : St} {x : Ev} : (stepSt s x).isborn = if x.kind = 11 then true else s.isborn := by
  unfold stepSt
  split
  · rfl
  · split <;> rfl
theorem cell_drew' {w : World} {p : Addr} {u : Value} (h : w.cell? p = some u) : w.drew.cell? p = some u := h

/-- What the document tells of a thing. -/
def rtoldP (o : Option St) : Value := .tuple #[itA (rx o), .bool o.isSome]


end

section
open Go.Shelf Go.RowKit Go.Maps
set_option linter.unusedVariables false



end

section
open Go.Shelf Go.RowKit Go.Maps
set_option linter.unusedVariables false

/-- A name put into rising ones. -/
def putP : List ByteArray → ByteArray → List ByteArray
  | [], s => [s]
  | x :: l, s => if x = s then x :: l else if Op.bytesLess x.toList s.toList then x :: putP l s else s :: x :: l
theorem putP_mem (l : List ByteArray) (s n : ByteArray) : n ∈ putP l s ↔ n ∈ l ∨ n = s := by
  induction l with
  | nil => simp [putP]
  | cons x l ih =>
    unfold putP
    split
    · rename_i h
      subst h
      constructor
      · exact Or.inl
      · rintro (h | h)
        · exact h
        · rw [h]; simp
    · split
      · rw [List.mem_cons, ih, List.mem_cons, or_assoc]
      · rw [List.mem_cons, or_comm]
theorem putP_rise {l : List ByteArray} (h : l.Pairwise ltN) (s : ByteArray) : (putP l s).Pairwise ltN := by
  induction l with
  | nil => exact List.pairwise_singleton _ _
  | cons x l ih =>
    obtain ⟨h1, h2⟩ := List.pairwise_cons.1 h
    unfold putP
    split
    · exact h
    · rename_i hne
      split
      · rename_i hlt
        rw [List.pairwise_cons]
        refine ⟨fun y hy => ?_, ih h2⟩
        rcases (putP_mem l s y).1 hy with hy | rfl
        · exact h1 y hy
        · exact (less_iff x y).1 hlt
      · rename_i hlt
        have hsx : ltN s x := ltN_of (fun e => hlt ((less_iff x s).2 e)) hne
        rw [List.pairwise_cons]
        refine ⟨fun y hy => ?_, h⟩
        rcases List.mem_cons.1 hy with rfl | hy
        · exact hsx
        · exact ltN_trans hsx (h1 y hy)
/-- Where the name goes. -/
theorem putP_at : ∀ (l : List ByteArray) (s : ByteArray) (k : Nat), k ≤ l.length → (∀ j x, j < k → l[j]? = some x → ltN x s) → (∀ x, l[k]? = some x → ¬ ltN x s) → putP l s = if l[k]? = some s then l else l.take k ++ (s :: l.drop k)
  | [], s, k, hk, _, _ => by
    obtain rfl : k = 0 := by simpa using hk
    simp [putP]
  | x :: l, s, 0, _, _, h2 => by
    have hx := h2 x rfl
    unfold putP
    by_cases he : x = s
    · simp [he]
    · have hl : Op.bytesLess x.toList s.toList = false := by
        rw [Bool.eq_false_iff]; exact fun e => hx ((less_iff x s).1 e)
      simp [he, hl]
  | x :: l, s, k + 1, hk, h1, h2 => by
    have hx := h1 0 x (by omega) rfl
    have ih := putP_at l s k (by simpa using hk) (fun j y hj hy => h1 (j + 1) y (by omega) (by simpa using hy)) (fun y hy => h2 y (by simpa using hy))
    have he : x ≠ s := fun e => by subst e; exact ltN_irr _ hx
    have hl : Op.bytesLess x.toList s.toList = true := (less_iff x s).2 hx
    unfold putP
    rw [if_neg he, if_pos hl, ih]
    simp only [List.getElem?_cons_succ, List.take_succ_cons, List.drop_succ_cons, List.cons_append]
    split <;> rfl

/-! ### the walk -/
theorem own_empty (w : World) (e : TypeId) (size : Nat) : (w.alloc (.cells #[] e)).ownsRow w.heap.size e size (.slice (some ⟨w.heap.size, 0, none⟩) 0 0) 0 [] :=
  ⟨by simp, Or.inr ⟨w.heap.size, 0, #[], rfl, Nat.le_refl _, heap_alloc_new w _, Nat.le_refl _, Nat.zero_le _, by simp, by simp⟩⟩
theorem own_mono {w : World} {base base' e size n : Nat} {v : Value} {xs : List Value} (h : w.ownsRow base e size v n xs) (hb : base' ≤ base) : w.ownsRow base' e size v n xs := by
  refine ⟨h.1, h.2.elim Or.inl fun ⟨g, cap, cur, h1, h2, h3⟩ => Or.inr ⟨g, cap, cur, h1, by omega, h3⟩⟩
theorem bel1 {w7 wa w1 : World} {r1 : Option Nat} (ha : Below w7.heap.size w7 wa) (hg1 : wa.grownBy w1 r1) (h1 : ∀ j, r1 = some j → w7.heap.size ≤ j) : Below w7.heap.size w7 w1 :=
  ((⟨ha.os, ha.tape, ha.output, ha.size, fun i hi _ => ha.block i hi⟩ : Kept (fun q => w7.heap.size ≤ q) w7 wa).grown hg1 (fun j hj => Or.inl (h1 j hj))).toBelow (fun i hi => hi) (Nat.le_refl _)
theorem row_grown {w w' : World} {B size n b : Nat} {xs : List Value} {row : Option Nat} (h : RowIn w B size (some ⟨b, 0, none⟩) n xs) (hb : b < w.heap.size) (hne : some b ≠ row) (hg : w.grownBy w' row) : RowIn w' B size (some ⟨b, 0, none⟩) n xs := by
  refine ⟨h.1, h.2.elim Or.inl fun hx => Or.inr ?_⟩
  obtain ⟨b', off, e, hb', hc⟩ := hx
  injection e with e
  injection e with e1 e2
  subst e1 e2
  exact ⟨b, 0, rfl, hb', fun j u hu => (World.cell?_of_block (hg.block b hb hne)).trans (hc j u hu)⟩
theorem below_drew {B : Nat} {w w' : World} (h : Below B w w') : Below B w w'.drew := ⟨h.os, h.tape, h.output, h.size, h.block⟩
theorem strs_one (l : List ByteArray) : ∀ u ∈ l.map Value.string, u.oneCell' = true := fun u hu => by
  obtain ⟨x, _, rfl⟩ := List.mem_map.1 hu
  rfl


end

section
open Go.Shelf Go.RowKit Go.Maps
set_option linter.unusedVariables false

/-- Is a thing listed, of the events up to a tick? -/
def rlB (l : List Ev) (t : Int) (n : ByteArray) : Bool := (rx (rst l n t)).listed
theorem rl_in {l : List Ev} {t : Int} {n : ByteArray} (h : rlB l t n = true) : ∃ e ∈ l, e.item = n := by
  unfold rlB rst at h
  by_cases hr : rowOf (l.filter fun e => decide (e.tick ≤ t)) n = []
  · rw [hr] at h; cases h
  · obtain ⟨e, he, h2⟩ := row_ne hr
    exact ⟨e, (List.mem_filter.1 he).1, h2⟩
theorem rl_wh {l : List Ev} (h : Rising l) (t : Int) (n : ByteArray) : rlB l t n = whB l t (fun x => true) n := by
  unfold rlB whB
  rw [at_ahead h n t]
  show (rx (rst l n t)).listed = match (rst l n t).map (·.item) with | some x => x.listed && true | none => false
  cases rst l n t with
  | none => rfl
  | some s => simp [rx]
theorem putP_len (l : List ByteArray) (s : ByteArray) : (putP l s).length ≤ l.length + 1 := by
  induction l with
  | nil => simp [putP]
  | cons x l ih =>
    unfold putP
    split
    · simp
    · split <;> simp <;> omega


end

section
open Go.Shelf Go.RowKit Go.Maps
set_option linter.unusedVariables false

theorem at_name {es : List Ev} {n : ByteArray} {t : Int} {x : It} (h : atP es n t = some x) : x.name = n := by
  unfold atP at h
  obtain ⟨s, hs, rfl⟩ := Option.map_eq_some_iff.1 h
  have h1 : s ∈ rowOf es n := (List.takeWhile_sublist _).subset (List.mem_of_getLast? hs)
  exact fold_name n _ (fun e he => of_decide_eq_true (List.mem_filter.1 he).2) [] (fun s hs => by cases hs) s h1

theorem semi_rest (r : ByteArray) : restP (⟨#[59]⟩ ++ r) = r := by
  have h : semiAt (⟨#[59]⟩ ++ r) 0 := ⟨by simp, fun j b hj => by omega⟩
  rw [(cut_hit h).2.1]
  apply ba_eq
  simp
  exact List.take_of_length_le (by simp; show r.size ≤ 1 + r.size - 1; omega)
theorem tagsOf_is (r : ByteArray) : tagsOf r = if r = ⟨#[]⟩ then [] else parts r := by
  unfold tagsOf evTags
  rw [semi_rest]
theorem tagsOf_rest (s : ByteArray) : tagsOf (restP s) = evTags s := by
  rw [tagsOf_is]; rfl
theorem rise_nodup : ∀ (l : List ByteArray), riseB l = true → l.Pairwise ltN
  | [], _ => List.Pairwise.nil
  | [x], _ => List.pairwise_singleton _ _
  | x :: y :: l, h => by
    simp only [riseB, Bool.and_eq_true] at h
    have ih := rise_nodup (y :: l) h.2.2
    have hxy : ltN x y := (less_iff x y).1 h.2.1
    rw [List.pairwise_cons]
    refine ⟨fun z hz => ?_, ih⟩
    rcases List.mem_cons.1 hz with rfl | hz
    · exact hxy
    · exact ltN_trans hxy ((List.pairwise_cons.1 ih).1 z hz)
theorem fold_tags2 (P : List Ev) (l : List Ev) (hl : ∀ e ∈ l, e ∈ P) : ∀ r : List St, (∀ s ∈ r, s.item.tags = ⟨#[]⟩ ∨ ∃ e ∈ P, e.kind = 11 ∧ s.item.tags = restP e.text) → ∀ s ∈ l.foldl rowStep r, s.item.tags = ⟨#[]⟩ ∨ ∃ e ∈ P, e.kind = 11 ∧ s.item.tags = restP e.text := by
  induction l with
  | nil => intro r hr; exact hr
  | cons e l ih =>
    intro r hr
    rw [List.foldl_cons]
    refine ih (fun x hx => hl x (List.mem_cons_of_mem _ hx)) _ (fun s hs => ?_)
    unfold rowStep at hs
    rcases List.mem_append.1 hs with hs | hs
    · exact hr s hs
    · obtain rfl : s = _ := by simpa using hs
      have h0 : (r.getLast?.getD (st0 e.item)).item.tags = ⟨#[]⟩ ∨ ∃ e ∈ P, e.kind = 11 ∧ (r.getLast?.getD (st0 e.item)).item.tags = restP e.text := by
        cases hl : r.getLast? with
        | none => exact Or.inl rfl
        | some y => exact hr y (List.mem_of_getLast? hl)
      unfold stepSt
      split
      · rename_i hk
        exact Or.inr ⟨e, hl e (by simp), hk, rfl⟩
      · split
        · rcases h0 with h | ⟨e', h1, h2, h3⟩
          · exact Or.inl h
          · exact Or.inr ⟨e', h1, h2, by
              cases hl2 : r.getLast? with
              | none => rw [hl2] at h3; exact h3
              | some y => rw [hl2] at h3; exact h3⟩
        · rcases h0 with h | ⟨e', h1, h2, h3⟩
          · exact Or.inl h
          · exact Or.inr ⟨e', h1, h2, by
              cases hl2 : r.getLast? with
              | none => rw [hl2] at h3; exact h3
              | some y => rw [hl2] at h3; exact h3⟩
theorem cat_list {e : Ev} (h : catB e = true) (hk : e.kind = 11) : riseB (evTags e.text) = true := by
  unfold catB mayB kindB at h
  simp [hk] at h
  have := h.2.2.2.2.2.2.2
  unfold listB at this
  simp only [Bool.and_eq_true] at this
  exact this.2.2.2
theorem at_rise {es : List Ev} (hm : ∀ e ∈ es, catB e = true) {n : ByteArray} {t : Int} {x : It} (h : atP es n t = some x) : (tagsOf x.tags).Pairwise ltN := by
  unfold atP at h
  obtain ⟨s, hs, rfl⟩ := Option.map_eq_some_iff.1 h
  have h1 : s ∈ rowOf es n := (List.takeWhile_sublist _).subset (List.mem_of_getLast? hs)
  rcases fold_tags2 es (ofN es n) (fun e he => (List.mem_filter.1 he).1) [] (fun s hs => by cases hs) s h1 with h2 | ⟨e, he, hk, h2⟩
  · rw [h2, tagsOf_is, if_pos rfl]; exact List.Pairwise.nil
  · rw [h2, tagsOf_rest]; exact rise_nodup _ (cat_list (hm e he) hk)

/-- Rows in blocks apart. -/
def Apart (a b : Value) : Prop := ∀ g, a.ownBlock = some g → b.ownBlock ≠ some g
theorem Apart.symm {a b : Value} (h : Apart a b) : Apart b a := fun g hb ha => h g ha hb
theorem apart_step {w : World} {o : Obj} {base e size m : Nat} {a a' b : Value} {ys : List Value} (h : Apart a b) (hb : w.ownsRow base e size b m ys) (hv : a'.ownBlock = a.ownBlock ∨ a'.ownBlock = some (w.alloc o).heap.size) : Apart a' b := fun g hg hb' => by
  rcases hv with hv | hv
  · exact h g (hv.symm.trans hg) hb'
  · rw [hv] at hg
    have h1 := Option.some.inj hg
    have h2 := (hb.lt _ hb').2
    rw [World.size_alloc] at h1
    omega
theorem owns_step {w w' : World} {o : Obj} {base e size m : Nat} {a b : Value} {ys : List Value} (h : Apart a b) (hb : w.ownsRow base e size b m ys) (hg : (w.alloc o).grownBy w' a.ownBlock) : w'.ownsRow base e size b m ys := by
  refine owns_kept (hb.alloc o) (Kept.grown (S := fun q => a.ownBlock = some q) (Kept.refl _ (w.alloc o)) hg (fun j hj => Or.inl hj)) (fun g hg' e => h g e hg')
theorem filt_is {es : List Ev} {t : Int} {ns : List ByteArray} (h : IsNames (whB es t (fun x => true)) ns) (p : It → Bool) : IsNames (whB es t p) (ns.filter fun n => p ((atP es n t).getD it0)) := by
  refine ⟨h.1.sublist List.filter_sublist, fun n => ?_⟩
  rw [List.mem_filter, h.2]
  unfold whB
  cases atP es n t with
  | none => simp
  | some x => simp
theorem take_snoc {α : Type} {l : List α} {k : Nat} {x : α} (h : l[k]? = some x) : l.take (k + 1) = l.take k ++ [x] := by rw [List.take_add_one, h]; rfl
/-- The map of a set of names. -/
def setG (ns : List ByteArray) : ByteArray → Option Value := fun n => if memB n ns then some (.bool true) else none
theorem setG_upd (ns : List ByteArray) (x : ByteArray) : ∀ n, updG (setG ns) x (.bool true) n = setG (ns ++ [x]) n := fun n => by
  unfold updG setG memB
  rw [List.any_append]
  by_cases h : n = x
  · subst h; simp
  · have h2 : ¬ x = n := fun e => h e.symm
    rw [if_neg h]
    have h3 : ([x].any fun y => decide (y = n)) = false := by simp [h2]
    rw [h3, Bool.or_false]

end

section
open Go.Shelf Go.RowKit Go.Maps
set_option linter.unusedVariables false

theorem idxc_hit (c : UInt8) : ∀ (s : List UInt8) (k : Nat), s[k]? = some c → (∀ j b, j < k → s[j]? = some b → b ≠ c) → Lib.index s [c] = k
  | [], k, h, _ => by simp at h
  | b :: s, 0, h, _ => by
    simp at h
    subst h
    simp [Lib.index]
  | b :: s, k + 1, h, hn => by
    have hb : b ≠ c := hn 0 b (by omega) rfl
    have ih := idxc_hit c s k (by simpa using h) (fun j d hj hc => hn (j + 1) d (by omega) (by simpa using hc))
    unfold Lib.index
    rw [ih]
    simp [List.isPrefixOf, Ne.symm hb]
theorem idxc_miss (c : UInt8) : ∀ (s : List UInt8), (∀ (j : Nat) b, s[j]? = some b → b ≠ c) → Lib.index s [c] = -1
  | [], _ => by simp [Lib.index]
  | b :: s, hn => by
    have hb : b ≠ c := hn 0 b rfl
    have ih := idxc_miss c s (fun j d hc => hn (j + 1) d (by simpa using hc))
    unfold Lib.index
    rw [ih]
    simp [List.isPrefixOf, Ne.symm hb]
theorem parts_hit {u : ByteArray} {k : Nat} (h : u.data.toList[k]? = some 44) (hn : ∀ j b, j < k → u.data.toList[j]? = some b → b ≠ 44) : parts u = u.extract 0 k :: parts (u.extract (k + 1) u.size) := by
  have hi : Lib.indexB u ⟨#[44]⟩ = (k : Int) := idxc_hit 44 u.data.toList k h hn
  unfold parts
  rw [Lib.countB_hit u ⟨#[44]⟩ k (by decide) hi, Nat.add_comm 1, Lib.splitB_hit ⟨#[44]⟩ 0 _ u k hi]
  rfl
theorem parts_miss {u : ByteArray} (hn : ∀ (j : Nat) b, u.data.toList[j]? = some b → b ≠ 44) : parts u = [u] :=
  Lib.splitB_miss ⟨#[44]⟩ 0 _ u (idxc_miss 44 u.data.toList hn)
theorem ext_at {s : ByteArray} {f : Nat} (j : Nat) : (s.extract f s.size).data.toList[j]? = s.data.toList[f + j]? := by
  simp [List.getElem?_take]
  intro h
  omega
theorem parts_at {s : ByteArray} {f k : Nat} (hf : f ≤ k) (h : s.data.toList[k]? = some 44) (hn : ∀ j b, f ≤ j → j < k → s.data.toList[j]? = some b → b ≠ 44) : parts (s.extract f s.size) = s.extract f k :: parts (s.extract (k + 1) s.size) := by
  have hk := (List.getElem?_eq_some_iff.1 h).1
  have hk' : k < s.size := by simpa using hk
  rw [parts_hit (k := k - f) (by rw [ext_at]; rw [show f + (k - f) = k by omega]; exact h) (fun j b hj hb => by rw [ext_at] at hb; exact hn (f + j) b (by omega) (by omega) hb)]
  congr 1
  · apply ba_eq
    simp
    omega
  · congr 1
    apply ba_eq
    simp
    rw [show f + (k - f + 1) = k + 1 by omega]
    rw [List.take_of_length_le (by simp; show s.size ≤ _; omega), List.take_of_length_le (by first | simp | (simp; show s.size ≤ _; omega))]
theorem parts_end {s : ByteArray} {f : Nat} (hn : ∀ j b, f ≤ j → s.data.toList[j]? = some b → b ≠ 44) : parts (s.extract f s.size) = [s.extract f s.size] :=
  parts_miss (fun j b hb => by rw [ext_at] at hb; exact hn (f + j) b (by omega) hb)

/-- How far the parts are, at k. -/
def PartsTo (s : ByteArray) (k f : Nat) (out : List ByteArray) : Prop := (k ≤ s.size → out ++ parts (s.extract f s.size) = parts s ∧ ∀ j b, f ≤ j → j < k → s.data.toList[j]? = some b → b ≠ 44) ∧ (k = s.size + 1 → out = parts s)
theorem PartsTo.start (s : ByteArray) : PartsTo s 0 0 [] := ⟨fun _ => ⟨by rw [List.nil_append]; congr 1; apply ba_eq; simp, fun j b _ h => by omega⟩, fun h => by omega⟩
theorem PartsTo.no {s : ByteArray} {k f : Nat} {out : List ByteArray} (h : PartsTo s k f out) (hk : k < s.size) (hb : (s[k]'hk) ≠ 44) : PartsTo s (k + 1) f out := by
  refine ⟨fun _ => ⟨(h.1 (by omega)).1, fun j b h1 h2 h3 => ?_⟩, fun e => by omega⟩
  by_cases e : j = k
  · subst e
    rw [List.getElem?_eq_getElem (by simpa using hk)] at h3
    cases h3
    exact hb
  · exact (h.1 (by omega)).2 j b h1 (by omega) h3
theorem PartsTo.yes {s : ByteArray} {k f : Nat} {out : List ByteArray} (h : PartsTo s k f out) (hf : f ≤ k) (hk : k < s.size) (hb : (s[k]'hk) = 44) : PartsTo s (k + 1) (k + 1) (out ++ [s.extract f k]) := by
  refine ⟨fun _ => ⟨?_, fun j b h1 h2 => by omega⟩, fun e => by omega⟩
  have h2 := parts_at (s := s) hf (by rw [List.getElem?_eq_getElem (by simpa using hk)]; exact congrArg some hb) (h.1 (by omega)).2
  rw [← (h.1 (by omega)).1, h2]
  simp
theorem PartsTo.fin {s : ByteArray} {f : Nat} {out : List ByteArray} (h : PartsTo s s.size f out) : PartsTo s (s.size + 1) (s.size + 1) (out ++ [s.extract f s.size]) := by
  refine ⟨fun h => by omega, fun _ => ?_⟩
  have h2 := h.1 (Nat.le_refl _)
  rw [← h2.1, parts_end (fun j b h1 h3 => h2.2 j b h1 (by simpa using (List.getElem?_eq_some_iff.1 h3).1) h3)]


theorem tags_one {s : ByteArray} {k : Nat} (h : semiAt s k) (hk : k < s.size) : evTags s = if k + 1 = s.size then [] else parts (s.extract (k + 1) s.size) := by
  unfold evTags
  rw [(cut_hit h).2.1]
  by_cases e : k + 1 = s.size
  · rw [if_pos e, if_pos]
    apply ba_eq
    simp [e]
  · rw [if_neg e, if_neg]
    intro h2
    have := congrArg ByteArray.size h2
    rw [ByteArray.size_extract, show (⟨#[]⟩ : ByteArray).size = 0 from rfl] at this
    omega
theorem tags_none {s : ByteArray} (h : semiNo s) : evTags s = [] := by
  unfold evTags
  rw [(cut_miss h).2.1, if_pos rfl]


end

section
open Go.Shelf Go.RowKit Go.Maps
set_option linter.unusedVariables false

/-- A row of a list. -/
structure Ro where
  name : ByteArray
  maker : ByteArray
  tags : ByteArray
  price : Int
  stock : Int
def roC (r : Ro) : List Value := [.string r.name, .string r.maker, .string r.tags, .int .i64 r.price, .int .i64 r.stock]
theorem roC_len (r : Ro) : (roC r).length = 5 := rfl
/-- A row of a thing. -/
def roOf (x : It) : Ro := ⟨x.name, x.maker, x.tags, x.price, x.stock⟩
/-- A number within the bounds of values? -/
def withB (n : Int) : Bool := decide (0 ≤ n ∧ n ≤ 1048576)
def tagsOkB (t : ByteArray) : Bool := decide ((tagsOf t).length ≤ 8) && riseB (tagsOf t)
/-- May a row be? -/
def mayR (r : Ro) : Bool := nameB r.name && (nameB r.maker && (withB r.price && (withB r.stock && tagsOkB r.tags)))
theorem tagsOf_eq (t : ByteArray) : tagsOf t = if t = ⟨#[]⟩ then [] else parts t := by
  unfold tagsOf evTags
  rw [semi_rest]

/-- The row with a name. -/
def findR (l : List Ro) (n : ByteArray) : Option Ro := l.find? fun r => decide (r.name = n)
/-- May a list be? -/
def okL (l : List Ro) : Bool := l.all mayR && decide ((l.map (·.name)).Nodup) && decide (l.length ≤ 4096)
theorem okL_iff (l : List Ro) : okL l = true ↔ (∀ r ∈ l, mayR r = true) ∧ (l.map (·.name)).Nodup ∧ l.length ≤ 4096 := by
  unfold okL
  rw [Bool.and_eq_true, Bool.and_eq_true, List.all_eq_true, decide_eq_true_iff, decide_eq_true_iff, and_assoc]

/-! ### what has to be told -/
/-- Of one name. -/
def tell1 (x : It) (r : Option Ro) : List (Int × Int × ByteArray) := match r with
  | none => [(13, 0, ⟨#[]⟩)]
  | some r => (if x.listed = true ∧ x.maker = r.maker ∧ x.tags = r.tags ∧ x.price = r.price then [] else [(11, r.price, r.maker ++ ⟨#[59]⟩ ++ r.tags)]) ++ (if x.stock = r.stock then [] else [(12, r.stock, ⟨#[]⟩)])
def tellsOf (es : List Ev) (t : Int) (l : List Ro) (n : ByteArray) : List (Int × Int × ByteArray) := tell1 ((atP es n t).getD it0) (findR l n)
def mkE (src : ByteArray) (num t : Int) (n : ByteArray) (p : Int × Int × ByteArray) : Ev := ⟨src, num, t, p.1, ⟨#[]⟩, n, p.2.1, p.2.2⟩
/-- All of them, without numbers. -/
def rawD (es : List Ev) (t : Int) (src : ByteArray) (l : List Ro) (ns : List ByteArray) : List Ev := ns.flatMap fun n => (tellsOf es t l n).map (mkE src 0 t n)
theorem rawD_snoc (es : List Ev) (t : Int) (src : ByteArray) (l : List Ro) (ns : List ByteArray) (n : ByteArray) : rawD es t src l (ns ++ [n]) = rawD es t src l ns ++ (tellsOf es t l n).map (mkE src 0 t n) := by
  unfold rawD; rw [List.flatMap_append]; simp
def setNum (e : Ev) (n : Int) : Ev := ⟨e.src, n, e.tick, e.kind, e.person, e.item, e.value, e.text⟩
/-- Numbers, one behind the other. -/
def numD (n : Int) (L : List Ev) : List Ev := L.mapIdx fun i e => setNum e (IntKind.i64.wrap (n + i))
theorem numD_len (n : Int) (L : List Ev) : (numD n L).length = L.length := by unfold numD; simp
theorem numD_snoc (n : Int) (L : List Ev) (e : Ev) : numD n (L ++ [e]) = numD n L ++ [setNum e (IntKind.i64.wrap (n + L.length))] := by
  unfold numD; simp
/-- Numbers as far as the i-th. -/
def midN (n : Int) (L : List Ev) (i : Nat) : List Ev := L.mapIdx fun j e => if j < i then setNum e (IntKind.i64.wrap (n + j)) else e
theorem mid_zero (n : Int) (L : List Ev) : midN n L 0 = L := by
  unfold midN
  apply List.ext_getElem? 
  intro i
  rw [List.getElem?_mapIdx]
  cases L[i]? <;> simp
theorem mid_all (n : Int) (L : List Ev) : midN n L L.length = numD n L := by
  unfold midN numD
  apply List.ext_getElem?
  intro i
  rw [List.getElem?_mapIdx, List.getElem?_mapIdx]
  cases h : L[i]? with
  | none => rfl
  | some e =>
    have := (List.getElem?_eq_some_iff.1 h).1
    simp [this]
theorem mid_at {n : Int} {L : List Ev} {i : Nat} {e : Ev} (h : L[i]? = some e) : (midN n L i)[i]? = some e := by
  unfold midN
  rw [List.getElem?_mapIdx, h]
  simp
theorem mid_set (n : Int) {L : List Ev} {i : Nat} {e : Ev} (h : L[i]? = some e) (hb : -9223372036854775808 ≤ n + i ∧ n + i ≤ 9223372036854775807) : (midN n L i).set i (setNum e (n + i)) = midN n L (i + 1) := by
  unfold midN
  apply List.ext_getElem?
  intro j
  rw [List.getElem?_set, List.getElem?_mapIdx, List.getElem?_mapIdx, List.length_mapIdx]
  by_cases hj : i = j
  · subst hj
    rw [if_pos rfl, if_pos (List.getElem?_eq_some_iff.1 h).1, h]
    simp [IntWalk.i64_in _ hb]
  · rw [if_neg hj]
    cases L[j]? with
    | none => rfl
    | some x =>
      have : (j < i) ↔ (j < i + 1) := by omega
      simp [this]
theorem flat_set {l : List Ev} {k : Nat} {e : Ev} (h : l[k]? = some e) {n : Int} : (l.flatMap evC).set (k * 8 + 1) (.int .i64 n) = (l.set k (setNum e n)).flatMap evC := by
  induction l generalizing k with
  | nil => simp at h
  | cons a l ih =>
    cases k with
    | zero =>
      simp at h
      subst h
      rfl
    | succ k =>
      rw [List.set_cons_succ, List.flatMap_cons, List.flatMap_cons, ← ih (by simpa using h), List.set_append, if_neg (by rw [evC_len]; omega), evC_len]
      congr 2
      omega
/-- The names that a catalog and a list have. -/
def NamesD (es : List Ev) (t : Int) (l : List Ro) (ns : List ByteArray) : Prop := IsNames (fun y => whB es t (fun _ => true) y || (findR l y).isSome) ns
/-- May it be told at all? -/
def goesD (l : List Ro) (src : ByteArray) (t n : Int) : Bool := okL l && (nameB src && (decide (0 ≤ t) && (decide (t ≤ 1099511627776) && decide (1 ≤ n))))
/-- What has to be told. -/
def IsDiff (es : List Ev) (t : Int) (src : ByteArray) (n : Int) (l : List Ro) (out : List Ev) : Prop :=
  (goesD l src t n = false → out = []) ∧ (goesD l src t n = true → ∀ ns, NamesD es t l ns → out = if 0 < (rawD es t src l ns).length ∧ 1099511627777 - (rawD es t src l ns).length < n then [] else numD n (rawD es t src l ns))

end

end Go.Proofs.YtdcinodbgbkobaaGreatDoor

/- Names in order; rows and maps of a call of its own: general lemmas. -/
import Derived.Test.YtcgangmmehbdoaaDoorEvMay
import Derived.Test.YtcgangmmehbdoaaDoorMapSz
import Derived.Carry
import Derived.Sort.Walk0
namespace Go.Proofs.YtcgangmmehbdoaaDoor
open Go.Shelf Go.RowKit Go.Maps
set_option linter.unusedVariables false

def ltN (a b : ByteArray) : Prop := a.data.toList < b.data.toList
theorem ltN_irr (a : ByteArray) : ¬ ltN a a := List.lt_irrefl _
theorem ltN_trans {a b c : ByteArray} (h : ltN a b) (k : ltN b c) : ltN a c := List.lt_trans h k
theorem ba_eq {a b : ByteArray} (h : a.data.toList = b.data.toList) : a = b := by
  cases a; cases b
  exact congrArg _ (Array.toList_inj.1 h)
theorem ltN_of {a b : ByteArray} (h : ¬ ltN a b) (hne : a ≠ b) : ltN b a := by
  rcases List.le_total b.data.toList a.data.toList with h1 | h1
  · exact Std.lt_of_le_of_ne h1 (fun e => hne (ba_eq e.symm))
  · exact absurd (Std.lt_of_le_of_ne h1 (fun e => hne (ba_eq e))) h
theorem less_iff (a b : ByteArray) : Op.bytesLess a.toList b.toList = true ↔ ltN a b := by
  rw [bytesLess_eq, decide_eq_true_iff, Lib.toList_data, Lib.toList_data]
  exact Iff.rfl
/-- ks: just those of which f holds, rising. -/
def IsNames (f : ByteArray → Bool) (ks : List ByteArray) : Prop := ks.Pairwise ltN ∧ ∀ n, n ∈ ks ↔ f n = true
theorem IsNames.nodup {f : ByteArray → Bool} {ks : List ByteArray} (h : IsNames f ks) : ks.Nodup := by
  rw [List.nodup_iff_pairwise_ne]
  exact h.1.imp (fun hab e => by subst e; exact ltN_irr _ hab)
theorem IsNames.one {f g : ByteArray → Bool} {ks ks' : List ByteArray} (h : IsNames f ks) (h' : IsNames g ks') (he : ∀ n, f n = g n) : ks = ks' :=
  List.Perm.eq_of_pairwise (le := ltN) (fun a b _ _ h1 h2 => absurd (ltN_trans h1 h2) (ltN_irr _)) h.1 h'.1 ((List.perm_ext_iff_of_nodup h.nodup h'.nodup).2 (fun n => by rw [h.2, h'.2, he]))
theorem beq_list (a b : ByteArray) : (a.toList == b.toList) = true ↔ a = b := by
  rw [beq_iff_eq, Lib.toList_data, Lib.toList_data]
  constructor
  · intro h
    exact ba_eq h
  · rintro rfl; rfl
theorem str_eqB (x y : ByteArray) : (x.toList == y.toList) = decide (x = y) := by
  by_cases h : x = y
  · subst h; simp
  · rw [Bool.eq_false_iff.2 (fun e => h ((beq_list x y).1 e))]; simp [h]
/-- Is it among them? -/
def memB (x : ByteArray) (l : List ByteArray) : Bool := l.any fun y => decide (y = x)
theorem memB_iff (x : ByteArray) (l : List ByteArray) : memB x l = true ↔ x ∈ l := by
  unfold memB
  rw [List.any_eq_true]
  constructor
  · rintro ⟨y, hy, h⟩
    obtain rfl := of_decide_eq_true h
    exact hy
  · intro h; exact ⟨x, h, by simp⟩
def evArr (e : Ev) : Array Value := #[.string e.src, .int .i64 e.num, .int .i64 e.tick, .int .i64 e.kind, .string e.person, .string e.item, .int .i64 e.value, .string e.text]
theorem own_nil (w : World) (base e size : Nat) : w.ownsRow base e size (.slice none 0 0) 0 [] := ⟨by simp, Or.inl ⟨rfl, rfl⟩⟩
theorem info_parts {P : Program} {e : TypeId} {z : Value} {n b : Nat} (h : (P.info? e).map (fun i => (i.zero, i.size, i.bytes)) = some (some z, n, b)) : ∃ i, P.info? e = some i ∧ i.zero = some z ∧ i.size = n ∧ i.bytes = b := by
  cases hq : P.info? e with
  | none => simp [hq] at h
  | some i => simp [hq] at h; exact ⟨i, rfl, h.1, h.2.1, h.2.2⟩
theorem own_shape {w : World} {base n : Nat} {e : TypeId} {size : Nat} {v : Value} {xs : List Value} (h : w.ownsRow base e size v n xs) : ∃ A c, v = .slice A n c := by
  rcases h.2 with ⟨rfl, rfl⟩ | ⟨g, cap, cur, rfl, _⟩
  · exact ⟨_, _, rfl⟩
  · exact ⟨_, _, rfl⟩
def okSl : Value → Bool
  | .slice _ _ _ => true
  | _ => false
def mapG (G : ByteArray → Option Value) : Lit → Option Value
  | .string l => G ⟨l.toArray⟩
  | _ => none
theorem mapG_at (G : ByteArray → Option Value) (n : ByteArray) : mapG G (.string n.data.toList) = G n := by simp [mapG]
def updG (G : ByteArray → Option Value) (n : ByteArray) (v : Value) : ByteArray → Option Value := fun x => if x = n then some v else G x
theorem ba_list (l : List UInt8) : (⟨l.toArray⟩ : ByteArray).data.toList = l := by simp
theorem str_same (a b : ByteArray) : (Lit.string a.data.toList).sameKey (.string b.data.toList) = decide (a = b) := by
  by_cases h : a = b
  · subst h
    rw [WideAt.sameKey_self (by trivial)]
    simp
  · rw [sameKey_ne (fun e => h (by
      injection e with e
      cases a; cases b
      exact congrArg _ (Array.toList_inj.1 e)))]
    simp [h]
theorem mapG_upd (G : ByteArray → Option Value) (n : ByteArray) (v : Value) : ∀ kl, upd (mapG G) (.string n.data.toList) v kl = mapG (updG G n v) kl := by
  intro kl
  cases kl with
  | string l =>
    have := str_same ⟨l.toArray⟩ n
    rw [ba_list] at this
    unfold upd
    rw [this]
    by_cases h : (⟨l.toArray⟩ : ByteArray) = n <;> simp [mapG, updG, h]
  | _ =>
    unfold upd
    rw [sameKey_ne (by intro h; cases h)]
    rfl
theorem owns_kept {w w' : World} {base e size n : Nat} {v : Value} {xs : List Value} {S : Nat → Prop} (h : w.ownsRow base e size v n xs) (k : Kept S w w') (hS : ∀ g, v.ownBlock = some g → ¬ S g) : w'.ownsRow base e size v n xs := by
  rcases hv : v.ownBlock with _ | g
  · refine ⟨h.1, ?_⟩
    rcases h.2 with h1 | ⟨g, cap, cur, h1, h2⟩
    · exact Or.inl h1
    · subst h1; cases hv
  · have hlt := (h.lt _ hv).2
    refine ⟨h.1, ?_⟩
    rcases h.2 with h1 | ⟨g', cap, cur, h1, h2, h3, h4⟩
    · exact Or.inl h1
    · subst h1
      cases hv
      exact Or.inr ⟨g', cap, cur, rfl, h2, (k.block _ hlt (hS _ rfl)).trans h3, h4⟩
theorem below_kept {w w' : World} {B : Nat} {S : Nat → Prop} (hb : Below B w w') (hB : w.heap.size ≤ B) : Kept S w w' := ⟨hb.os, hb.tape, hb.output, hb.size, fun i hi _ => hb.block i (by omega)⟩
theorem mk_sl {v : Value} (h : okSl v = true) : ∃ x : Option Addr × Nat × Nat, v = .slice x.1 x.2.1 x.2.2 := by
  match v, h with
  | .slice a l c, _ => exact ⟨(a, l, c), rfl⟩
theorem str_info : (Tryd.prog.info? 9).map (fun i => (i.zero, i.size, i.bytes)) = some (some (.string ⟨#[]⟩), 1, 16) := by kernel_rfl
theorem one_str (w : World) (z : ByteArray) (t : TypeId) : RowIn (w.alloc (.cells #[.string z] t)) (w.heap.size + 1) 1 (some ⟨w.heap.size, 0, none⟩) 1 [.string z] := by
  refine ⟨rfl, Or.inr ⟨w.heap.size, 0, rfl, by omega, fun j u hu => ?_⟩⟩
  rw [(Blk.new w t _).cell]
  rw [← hu, Nat.zero_add]
  simp
/-- A name put into rising ones. -/
def putP : List ByteArray → ByteArray → List ByteArray
  | [], s => [s]
  | x :: l, s => if x = s then x :: l else if Op.bytesLess x.toList s.toList then x :: putP l s else s :: x :: l
theorem putP_mem (l : List ByteArray) (s n : ByteArray) : n ∈ putP l s ↔ n ∈ l ∨ n = s := by
  induction l with
  | nil => simp [putP]
  | cons x l ih =>
    unfold putP
    split
    · rename_i h
      subst h
      constructor
      · exact Or.inl
      · rintro (h | h)
        · exact h
        · rw [h]; simp
    · split
      · rw [List.mem_cons, ih, List.mem_cons, or_assoc]
      · rw [List.mem_cons, or_comm]
theorem putP_rise {l : List ByteArray} (h : l.Pairwise ltN) (s : ByteArray) : (putP l s).Pairwise ltN := by
  induction l with
  | nil => exact List.pairwise_singleton _ _
  | cons x l ih =>
    obtain ⟨h1, h2⟩ := List.pairwise_cons.1 h
    unfold putP
    split
    · exact h
    · rename_i hne
      split
      · rename_i hlt
        rw [List.pairwise_cons]
        refine ⟨fun y hy => ?_, ih h2⟩
        rcases (putP_mem l s y).1 hy with hy | rfl
        · exact h1 y hy
        · exact (less_iff x y).1 hlt
      · rename_i hlt
        have hsx : ltN s x := ltN_of (fun e => hlt ((less_iff x s).2 e)) hne
        rw [List.pairwise_cons]
        refine ⟨fun y hy => ?_, h⟩
        rcases List.mem_cons.1 hy with rfl | hy
        · exact hsx
        · exact ltN_trans hsx (h1 y hy)
/-- Where the name goes. -/
theorem putP_at : ∀ (l : List ByteArray) (s : ByteArray) (k : Nat), k ≤ l.length → (∀ j x, j < k → l[j]? = some x → ltN x s) → (∀ x, l[k]? = some x → ¬ ltN x s) → putP l s = if l[k]? = some s then l else l.take k ++ (s :: l.drop k)
  | [], s, k, hk, _, _ => by
    obtain rfl : k = 0 := by simpa using hk
    simp [putP]
  | x :: l, s, 0, _, _, h2 => by
    have hx := h2 x rfl
    unfold putP
    by_cases he : x = s
    · simp [he]
    · have hl : Op.bytesLess x.toList s.toList = false := by
        rw [Bool.eq_false_iff]; exact fun e => hx ((less_iff x s).1 e)
      simp [he, hl]
  | x :: l, s, k + 1, hk, h1, h2 => by
    have hx := h1 0 x (by omega) rfl
    have ih := putP_at l s k (by simpa using hk) (fun j y hj hy => h1 (j + 1) y (by omega) (by simpa using hy)) (fun y hy => h2 y (by simpa using hy))
    have he : x ≠ s := fun e => by subst e; exact ltN_irr _ hx
    have hl : Op.bytesLess x.toList s.toList = true := (less_iff x s).2 hx
    unfold putP
    rw [if_neg he, if_pos hl, ih]
    simp only [List.getElem?_cons_succ, List.take_succ_cons, List.drop_succ_cons, List.cons_append]
    split <;> rfl
theorem own_empty (w : World) (e : TypeId) (size : Nat) : (w.alloc (.cells #[] e)).ownsRow w.heap.size e size (.slice (some ⟨w.heap.size, 0, none⟩) 0 0) 0 [] :=
  ⟨by simp, Or.inr ⟨w.heap.size, 0, #[], rfl, Nat.le_refl _, heap_alloc_new w _, Nat.le_refl _, Nat.zero_le _, by simp, by simp⟩⟩
theorem own_mono {w : World} {base base' e size n : Nat} {v : Value} {xs : List Value} (h : w.ownsRow base e size v n xs) (hb : base' ≤ base) : w.ownsRow base' e size v n xs := by
  refine ⟨h.1, h.2.elim Or.inl fun ⟨g, cap, cur, h1, h2, h3⟩ => Or.inr ⟨g, cap, cur, h1, by omega, h3⟩⟩
theorem bel1 {w7 wa w1 : World} {r1 : Option Nat} (ha : Below w7.heap.size w7 wa) (hg1 : wa.grownBy w1 r1) (h1 : ∀ j, r1 = some j → w7.heap.size ≤ j) : Below w7.heap.size w7 w1 :=
  ((⟨ha.os, ha.tape, ha.output, ha.size, fun i hi _ => ha.block i hi⟩ : Kept (fun q => w7.heap.size ≤ q) w7 wa).grown hg1 (fun j hj => Or.inl (h1 j hj))).toBelow (fun i hi => hi) (Nat.le_refl _)
theorem row_grown {w w' : World} {B size n b : Nat} {xs : List Value} {row : Option Nat} (h : RowIn w B size (some ⟨b, 0, none⟩) n xs) (hb : b < w.heap.size) (hne : some b ≠ row) (hg : w.grownBy w' row) : RowIn w' B size (some ⟨b, 0, none⟩) n xs := by
  refine ⟨h.1, h.2.elim Or.inl fun hx => Or.inr ?_⟩
  obtain ⟨b', off, e, hb', hc⟩ := hx
  injection e with e
  injection e with e1 e2
  subst e1 e2
  exact ⟨b, 0, rfl, hb', fun j u hu => (World.cell?_of_block (hg.block b hb hne)).trans (hc j u hu)⟩
theorem below_drew {B : Nat} {w w' : World} (h : Below B w w') : Below B w w'.drew := ⟨h.os, h.tape, h.output, h.size, h.block⟩
theorem strs_one (l : List ByteArray) : ∀ u ∈ l.map Value.string, u.oneCell' = true := fun u hu => by
  obtain ⟨x, _, rfl⟩ := List.mem_map.1 hu
  rfl
/-- Rows in blocks apart. -/
def Apart (a b : Value) : Prop := ∀ g, a.ownBlock = some g → b.ownBlock ≠ some g
theorem Apart.symm {a b : Value} (h : Apart a b) : Apart b a := fun g hb ha => h g ha hb
theorem apart_step {w : World} {o : Obj} {base e size m : Nat} {a a' b : Value} {ys : List Value} (h : Apart a b) (hb : w.ownsRow base e size b m ys) (hv : a'.ownBlock = a.ownBlock ∨ a'.ownBlock = some (w.alloc o).heap.size) : Apart a' b := fun g hg hb' => by
  rcases hv with hv | hv
  · exact h g (hv.symm.trans hg) hb'
  · rw [hv] at hg
    have h1 := Option.some.inj hg
    have h2 := (hb.lt _ hb').2
    rw [World.size_alloc] at h1
    omega
theorem owns_step {w w' : World} {o : Obj} {base e size m : Nat} {a b : Value} {ys : List Value} (h : Apart a b) (hb : w.ownsRow base e size b m ys) (hg : (w.alloc o).grownBy w' a.ownBlock) : w'.ownsRow base e size b m ys := by
  refine owns_kept (hb.alloc o) (Kept.grown (S := fun q => a.ownBlock = some q) (Kept.refl _ (w.alloc o)) hg (fun j hj => Or.inl hj)) (fun g hg' e => h g e hg')
theorem take_snoc {α : Type} {l : List α} {k : Nat} {x : α} (h : l[k]? = some x) : l.take (k + 1) = l.take k ++ [x] := by rw [List.take_add_one, h]; rfl
theorem frozen_own {w : World} {base e size n c : Nat} {g : Nat} {xs : List Value} (h : w.ownsRow base e size (.slice (some ⟨g, 0, none⟩) n c) n xs) : ∀ j, w.frozen? ⟨g, j, none⟩ = false := by
  intro j
  rcases h.2 with ⟨h, _⟩ | ⟨g', cap', cur, h, _, hh, _⟩
  · cases h
  · injection h with h
    injection h with h
    injection h with h
    subst h
    simp [World.frozen?, hh]
theorem int_info : (Tryd.prog.info? 3).map (fun i => (i.zero, i.size, i.bytes)) = some (some (.int .i64 0), 1, 8) := by kernel_rfl
theorem one_int (w : World) (z : Int) (t : TypeId) : RowIn (w.alloc (.cells #[.int .i64 z] t)) (w.heap.size + 1) 1 (some ⟨w.heap.size, 0, none⟩) 1 [.int .i64 z] := by
  refine ⟨rfl, Or.inr ⟨w.heap.size, 0, rfl, by omega, fun j u hu => ?_⟩⟩
  rw [(Blk.new w t _).cell]
  rw [← hu, Nat.zero_add]
  simp
/-- Texts that a machine can hold. -/
def EvBd (e : Ev) : Prop := e.src.size ≤ 281474976710656 ∧ e.person.size ≤ 281474976710656 ∧ e.item.size ≤ 281474976710656 ∧ e.text.size ≤ 281474976710656
theorem one_ev (w : World) (x : Ev) (t : TypeId) : RowIn (w.alloc (.cells #[.string x.src, .int .i64 x.num, .int .i64 x.tick, .int .i64 x.kind, .string x.person, .string x.item, .int .i64 x.value, .string x.text] t)) (w.heap.size + 1) 8 (some ⟨w.heap.size, 0, none⟩) 1 (evC x) := by
  refine ⟨rfl, Or.inr ⟨w.heap.size, 0, rfl, by omega, fun j u hu => ?_⟩⟩
  rw [(Blk.new w t _).cell]
  rw [← hu, Nat.zero_add]
  simp [evC]
/-- A list of events that was handed in. -/
def EvArg (w : World) (A : Option Addr) (n c : Nat) (l : List Ev) : Prop := l.length = n ∧ EvsAt w w.heap.size A l ∧ n ≤ 140737488355328 ∧ (A = none → c = 0) ∧ ∀ e ∈ l, EvBd e
theorem evs_off {w w' : World} {B : Nat} {A : Option Addr} {l : List Ev} {S : Nat → Prop} (h : EvsAt w B A l) (k : Kept S w w') (hB : B ≤ w.heap.size) (hA : ∀ ad, A = some ad → ¬ S ad.block) : EvsAt w' B A l := by
  refine ⟨h.1, h.2.elim Or.inl fun hx => Or.inr ?_⟩
  obtain ⟨b, off, e, hb, hc⟩ := hx
  exact ⟨b, off, e, hb, fun j u hu => (k.cell (p := ⟨b, off + j, none⟩) (by show b < _; omega) (hA ⟨b, off, none⟩ e)).trans (hc j u hu)⟩

end Go.Proofs.YtcgangmmehbdoaaDoor

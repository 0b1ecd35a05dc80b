/- A catalog in memory; New. -/
import Derived.Test.YtikbckpphkpaiaaDoorCatP
import Derived.Test.YtikbckpphkpaiaaDoorMapSz
import Derived.Carry
namespace Go.Proofs.YtikbckpphkpaiaaDoor
open Go.Shelf Go.RowKit Go.Maps
set_option linter.unusedVariables false

def itC (x : It) : List Value := [.string x.name, .string x.maker, .string x.tags, .int .i64 x.stock, .int .i64 x.price, .int .i64 x.born, .bool x.listed]
def itA (x : It) : Value := .agg #[.string x.name, .string x.maker, .string x.tags, .int .i64 x.stock, .int .i64 x.price, .int .i64 x.born, .bool x.listed]
def stC (s : St) : List Value := .int .i64 s.tick :: .bool s.isborn :: itC s.item
theorem stC_len (s : St) : (stC s).length = 9 := rfl
theorem stC_one : ∀ (l : List St), ∀ u ∈ l.flatMap stC, u.oneCell' = true := by
  intro l u hu
  obtain ⟨x, _, hx⟩ := List.mem_flatMap.1 hu
  simp [stC, itC] at hx
  rcases hx with rfl | rfl | rfl | rfl | rfl | rfl | rfl | rfl | rfl <;> rfl
theorem st_info : (Tryd.prog.info? 78).map (fun i => (i.zero, i.size, i.bytes)) = some (some (.agg #[.int .i64 0, .bool false, .string ⟨#[]⟩, .string ⟨#[]⟩, .string ⟨#[]⟩, .int .i64 0, .int .i64 0, .int .i64 0, .bool false]), 9, 96) := by kernel_rfl
/-- A state lies at off in block b. -/
def StAt (w : World) (b off : Nat) (s : St) : Prop :=
  w.cell? ⟨b, off, none⟩ = some (.int .i64 s.tick) ∧ w.cell? ⟨b, off + 1, none⟩ = some (.bool s.isborn) ∧ w.cell? ⟨b, off + 2, none⟩ = some (.string s.item.name) ∧ w.cell? ⟨b, off + 3, none⟩ = some (.string s.item.maker) ∧
  w.cell? ⟨b, off + 4, none⟩ = some (.string s.item.tags) ∧ w.cell? ⟨b, off + 5, none⟩ = some (.int .i64 s.item.stock) ∧ w.cell? ⟨b, off + 6, none⟩ = some (.int .i64 s.item.price) ∧ w.cell? ⟨b, off + 7, none⟩ = some (.int .i64 s.item.born) ∧ w.cell? ⟨b, off + 8, none⟩ = some (.bool s.item.listed)
theorem StAt.keep {w w' : World} {b off : Nat} {x : St} (h : StAt w b off x) (hk : ∀ j, w'.cell? ⟨b, j, none⟩ = w.cell? ⟨b, j, none⟩) : StAt w' b off x := by
  obtain ⟨h0, h1, h2, h3, h4, h5, h6, h7, h8⟩ := h
  exact ⟨(hk _).trans h0, (hk _).trans h1, (hk _).trans h2, (hk _).trans h3, (hk _).trans h4, (hk _).trans h5, (hk _).trans h6, (hk _).trans h7, (hk _).trans h8⟩
theorem own_st {w : World} {base : Nat} {g n c : Nat} {e : TypeId} {l : List St} (h : w.ownsRow base e 9 (.slice (some ⟨g, 0, none⟩) n c) n (l.flatMap stC)) : ∀ i x, l[i]? = some x → StAt w g (i * 9) x := by
  intro i x hx
  have g0 := fun j (hj : j < 9) => flat_get stC 9 stC_len l i j x hx hj
  have k := fun j (hj : j < 9) u (hu : (stC x)[j]? = some u) => h.cells (g := g) rfl (i * 9 + j) u ((g0 j hj).trans hu)
  have e : ∀ j, (⟨g, 0, none⟩ : Addr).add j = ⟨g, j, none⟩ := fun j => by rw [at_add, Nat.zero_add]
  simp only [e] at k
  exact ⟨k 0 (by omega) _ rfl, k 1 (by omega) _ rfl, k 2 (by omega) _ rfl, k 3 (by omega) _ rfl, k 4 (by omega) _ rfl, k 5 (by omega) _ rfl, k 6 (by omega) _ rfl, k 7 (by omega) _ rfl, k 8 (by omega) _ rfl⟩

def okSl : Value → Bool
  | .slice _ _ _ => true
  | _ => false
theorem zeroSl (w : World) : (zeroValue 76).run Tryd.prog w = .ok (.slice none 0 0) w := by kernel_rfl

def mapG (G : ByteArray → Option Value) : Lit → Option Value
  | .string l => G ⟨l.toArray⟩
  | _ => none
theorem mapG_at (G : ByteArray → Option Value) (n : ByteArray) : mapG G (.string n.data.toList) = G n := by simp [mapG]
def updG (G : ByteArray → Option Value) (n : ByteArray) (v : Value) : ByteArray → Option Value := fun x => if x = n then some v else G x
theorem ba_list (l : List UInt8) : (⟨l.toArray⟩ : ByteArray).data.toList = l := by simp
theorem str_same (a b : ByteArray) : (Lit.string a.data.toList).sameKey (.string b.data.toList) = decide (a = b) := by
  by_cases h : a = b
  · subst h
    rw [WideAt.sameKey_self (by trivial)]
    simp
  · rw [sameKey_ne (fun e => h (by
      injection e with e
      cases a; cases b
      exact congrArg _ (Array.toList_inj.1 e)))]
    simp [h]
theorem mapG_upd (G : ByteArray → Option Value) (n : ByteArray) (v : Value) : ∀ kl, upd (mapG G) (.string n.data.toList) v kl = mapG (updG G n v) kl := by
  intro kl
  cases kl with
  | string l =>
    have := str_same ⟨l.toArray⟩ n
    rw [ba_list] at this
    unfold upd
    rw [this]
    by_cases h : (⟨l.toArray⟩ : ByteArray) = n <;> simp [mapG, updG, h]
  | _ =>
    unfold upd
    rw [sameKey_ne (by intro h; cases h)]
    rfl

def catCells (a : Bool) (e : Ev) (mb : Nat) : Array Value := #[.bool a, .string e.src, .int .i64 e.num, .int .i64 e.tick, .int .i64 e.kind, .string e.person, .string e.item, .int .i64 e.value, .string e.text, .map (some mb)]
/-- The catalog of the events es lies in block cb, its map in mb; G: the slice of each name; F: all its blocks. -/
structure CatIn (w : World) (cb mb : Nat) (G : ByteArray → Option Value) (last : Ev) (F : Nat → Prop) (es : List Ev) : Prop where
  blk : Blk w cb 74 (catCells (!es.isEmpty) last mb)
  lst : ∀ l, es.getLast? = some l → last = l
  map : MapIs Tryd.prog 9 okSl w mb es.length (mapG G)
  fc : F cb
  fm : F mb
  lt : ∀ q, F q → q < w.heap.size
  none_ : ∀ n, rowOf es n = [] → G n = none
  some_ : ∀ n, rowOf es n ≠ [] → ∃ g cap, G n = some (.slice (some ⟨g, 0, none⟩) (rowOf es n).length cap) ∧ w.ownsRow 0 78 9 (.slice (some ⟨g, 0, none⟩) (rowOf es n).length cap) (rowOf es n).length ((rowOf es n).flatMap stC) ∧ F g ∧ g ≠ cb ∧ g ≠ mb
  apart : ∀ n n' v v', n ≠ n' → G n = some v → G n' = some v' → v.ownBlock ≠ v'.ownBlock
  rise : Rising es
  may : ∀ e ∈ es, catB e = true
  sh : ∀ e ∈ es, EvSh e
def CatAt (w : World) (cb : Nat) (F : Nat → Prop) (es : List Ev) : Prop := ∃ mb G last, CatIn w cb mb G last F es

theorem owns_kept {w w' : World} {base e size n : Nat} {v : Value} {xs : List Value} {S : Nat → Prop} (h : w.ownsRow base e size v n xs) (k : Kept S w w') (hS : ∀ g, v.ownBlock = some g → ¬ S g) : w'.ownsRow base e size v n xs := by
  rcases hv : v.ownBlock with _ | g
  · refine ⟨h.1, ?_⟩
    rcases h.2 with h1 | ⟨g, cap, cur, h1, h2⟩
    · exact Or.inl h1
    · subst h1; cases hv
  · have hlt := (h.lt _ hv).2
    refine ⟨h.1, ?_⟩
    rcases h.2 with h1 | ⟨g', cap, cur, h1, h2, h3, h4⟩
    · exact Or.inl h1
    · subst h1
      cases hv
      exact Or.inr ⟨g', cap, cur, rfl, h2, (k.block _ hlt (hS _ rfl)).trans h3, h4⟩
theorem below_kept {w w' : World} {B : Nat} {S : Nat → Prop} (hb : Below B w w') (hB : w.heap.size ≤ B) : Kept S w w' := ⟨hb.os, hb.tape, hb.output, hb.size, fun i hi _ => hb.block i (by omega)⟩

theorem CatIn.kept {w w' : World} {cb mb : Nat} {G : ByteArray → Option Value} {last : Ev} {F S : Nat → Prop} {es : List Ev} (h : CatIn w cb mb G last F es) (k : Kept S w w') (hS : ∀ q, F q → ¬ S q) : CatIn w' cb mb G last F es := by
  refine ⟨h.blk.kept k (hS _ h.fc), h.lst, h.map.kept k (hS _ h.fm), h.fc, h.fm, fun q hq => Nat.lt_of_lt_of_le (h.lt q hq) k.size, h.none_, fun n hn => ?_, h.apart, h.rise, h.may, h.sh⟩
  obtain ⟨g, cap, h1, h2, h3, h4, h5⟩ := h.some_ n hn
  exact ⟨g, cap, h1, owns_kept h2 k (fun g' hg => by cases hg; exact hS _ h3), h3, h4, h5⟩
theorem CatAt.kept {w w' : World} {cb : Nat} {F S : Nat → Prop} {es : List Ev} (h : CatAt w cb F es) (k : Kept S w w') (hS : ∀ q, F q → ¬ S q) : CatAt w' cb F es := by
  obtain ⟨mb, G, last, h⟩ := h
  exact ⟨mb, G, last, h.kept k hS⟩
theorem CatAt.below {w w' : World} {cb : Nat} {F : Nat → Prop} {es : List Ev} (h : CatAt w cb F es) (k : Below w.heap.size w w') : CatAt w' cb F es := h.kept (below_kept (S := fun _ => False) k (Nat.le_refl _)) (fun _ _ h => h)
theorem CatAt.rise {w : World} {cb : Nat} {F : Nat → Prop} {es : List Ev} (h : CatAt w cb F es) : Rising es := by
  obtain ⟨mb, G, last, h⟩ := h
  exact h.rise
theorem CatAt.sh {w : World} {cb : Nat} {F : Nat → Prop} {es : List Ev} (h : CatAt w cb F es) : ∀ e ∈ es, EvSh e := by
  obtain ⟨mb, G, last, h⟩ := h
  exact h.sh
theorem CatAt.may {w : World} {cb : Nat} {F : Nat → Prop} {es : List Ev} (h : CatAt w cb F es) : ∀ e ∈ es, catB e = true := by
  obtain ⟨mb, G, last, h⟩ := h
  exact h.may
theorem CatAt.lt {w : World} {cb : Nat} {F : Nat → Prop} {es : List Ev} (h : CatAt w cb F es) : ∀ q, F q → q < w.heap.size := by
  obtain ⟨mb, G, last, h⟩ := h
  exact h.lt
theorem CatAt.fc {w : World} {cb : Nat} {F : Nat → Prop} {es : List Ev} (h : CatAt w cb F es) : F cb := by
  obtain ⟨mb, G, last, h⟩ := h
  exact h.fc

theorem rowOf_nil (n : ByteArray) : rowOf [] n = [] := rfl
def ev0 : Ev := ⟨⟨#[]⟩, 0, 0, 0, ⟨#[]⟩, ⟨#[]⟩, 0, ⟨#[]⟩⟩

set_option maxHeartbeats 1000000 in
set_option maxRecDepth 100000 in
theorem new_any (w : World) : Calls Tryd.prog 21 #[] w fun e w' => ∃ cb F, e = .returned (.pointer (some ⟨cb, 0, none⟩)) ∧ CatAt w' cb F [] ∧ (∀ q, F q → w.heap.size ≤ q) ∧ Below w.heap.size w w' := by
  have hmm := @run_makeMap Tryd.prog
  obtain ⟨w1, hw1⟩ : ∃ w1, w.alloc (.map #[] 0) = w1 := ⟨_, rfl⟩
  have z1 : Hid (w1.heap.size = w.heap.size + 1) := Lib.hid (by rw [← hw1]; simp)
  have hM1 : MapIs Tryd.prog 9 okSl w1 w.heap.size 0 (fun _ => none) := by rw [← hw1]; exact MapIs.made _ _ _ _
  have hB1 : Below w.heap.size w w1 := by rw [← hw1]; exact (Below.refl _ _).alloc (Nat.le_refl _) _
  have HM := Lib.hid hM1
  have HB := Lib.hid hB1
  clear hM1 hB1
  go_enter Tryd.func21, Tryd.ntmps21
  go_wp2_with fail
  go_ret
  have z := z1.out
  refine ⟨w1.heap.size, fun q => q = w.heap.size ∨ q = w1.heap.size, rfl, ⟨w.heap.size, fun _ => none, ev0, ?_⟩, ?_, HB.out.alloc (by omega) _⟩
  · refine ⟨Blk.new _ _ _, fun l h => (by cases h), ?_, Or.inr rfl, Or.inl rfl, ?_, fun _ _ => rfl, fun n hn => absurd (rowOf_nil n) hn, fun n n' v v' _ h => (by cases h), List.Pairwise.nil, fun e he => (by cases he), fun e he => (by cases he)⟩
    · refine (HM.out.alloc _).congr fun kl => ?_
      cases kl <;> rfl
    · rintro q (rfl | rfl) <;> simp <;> omega
  · rintro q (rfl | rfl) <;> omega

end Go.Proofs.YtikbckpphkpaiaaDoor

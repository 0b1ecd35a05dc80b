/- The catalog as a list of events: what it holds of each thing. Plain. A catalog in memory; New. At of the program: sort.Search with its closure. A catalog in memory that has had one event more. -/
import Derived.Test.YtdcinodbgbkobaaGreatDoorGb
import Derived.Test.YtdcinodbgbkobaaGreatDoorGa
import Derived.Carry
namespace Go.Proofs.YtdcinodbgbkobaaGreatDoor
section
set_option linter.unusedVariables false

structure It where
  name : ByteArray
  maker : ByteArray
  tags : ByteArray
  stock : Int
  price : Int
  born : Int
  listed : Bool
structure St where
  tick : Int
  isborn : Bool
  item : It
def it0 : It := ⟨⟨#[]⟩, ⟨#[]⟩, ⟨#[]⟩, 0, 0, 0, false⟩
def st0 (n : ByteArray) : St := ⟨0, false, ⟨n, ⟨#[]⟩, ⟨#[]⟩, 0, 0, 0, false⟩⟩
/-- A thing behind an event. -/
def stepSt (s : St) (e : Ev) : St :=
  if e.kind = 11 then ⟨e.tick, true, ⟨s.item.name, headP e.text, restP e.text, s.item.stock, e.value, if s.isborn then s.item.born else e.tick, true⟩⟩
  else if e.kind = 12 then ⟨e.tick, s.isborn, ⟨s.item.name, s.item.maker, s.item.tags, e.value, s.item.price, s.item.born, s.item.listed⟩⟩
  else ⟨e.tick, s.isborn, ⟨s.item.name, s.item.maker, s.item.tags, s.item.stock, s.item.price, s.item.born, false⟩⟩
theorem stepSt_tick (s : St) (e : Ev) : (stepSt s e).tick = e.tick := by unfold stepSt; split; rfl; split <;> rfl
theorem stepSt_name (s : St) (e : Ev) : (stepSt s e).item.name = s.item.name := by unfold stepSt; split; rfl; split <;> rfl
def rowStep (row : List St) (e : Ev) : List St := row ++ [stepSt (row.getLast?.getD (st0 e.item)) e]
/-- The events of a thing. -/
def ofN (es : List Ev) (n : ByteArray) : List Ev := es.filter fun e => decide (e.item = n)
/-- A thing behind each of its events. -/
def rowOf (es : List Ev) (n : ByteArray) : List St := (ofN es n).foldl rowStep []

theorem ofN_snoc (es : List Ev) (e : Ev) (n : ByteArray) : ofN (es ++ [e]) n = if e.item = n then ofN es n ++ [e] else ofN es n := by
  unfold ofN
  rw [List.filter_append]
  by_cases h : e.item = n
  · rw [if_pos h]; simp [h]
  · rw [if_neg h]; simp [h]
theorem rowOf_snoc (es : List Ev) (e : Ev) (n : ByteArray) : rowOf (es ++ [e]) n = if e.item = n then rowStep (rowOf es n) e else rowOf es n := by
  unfold rowOf
  rw [ofN_snoc]
  split
  · rw [List.foldl_append]; rfl
  · rfl
theorem row_ticks (l : List Ev) : ∀ r : List St, (l.foldl rowStep r).map (·.tick) = r.map (·.tick) ++ l.map (·.tick) := by
  induction l with
  | nil => intro r; simp
  | cons e l ih =>
    intro r
    rw [List.foldl_cons, ih]
    simp [rowStep, stepSt_tick]
theorem rowOf_ticks (es : List Ev) (n : ByteArray) : (rowOf es n).map (·.tick) = (ofN es n).map (·.tick) := by
  have := row_ticks (ofN es n) []
  simpa [rowOf] using this
theorem rowOf_len (es : List Ev) (n : ByteArray) : (rowOf es n).length = (ofN es n).length := by
  have := congrArg List.length (rowOf_ticks es n)
  simpa using this
theorem rowOf_le (es : List Ev) (n : ByteArray) : (rowOf es n).length ≤ es.length := by
  rw [rowOf_len]
  exact List.length_filter_le _ _

/-- Is an event a catalog's? -/
def catB (e : Ev) : Bool := mayB e && decide (e.kind = 11 ∨ e.kind = 12 ∨ e.kind = 13)
/-- Does a catalog take it? -/
def takesB (es : List Ev) (e : Ev) : Bool := catB e && (match es.getLast? with | none => true | some l => decide (cmpE e l = 1))
/-- Rising ticks. -/
def Rising (es : List Ev) : Prop := es.Pairwise fun a b => a.tick ≤ b.tick
theorem cmpE_tick {x y : Ev} (h : cmpE x y = 1) : y.tick ≤ x.tick := by
  unfold cmpE at h
  simp only [orL] at h
  unfold cmpI at h
  split at h <;> first | omega | (split at h <;> first | omega | (split at h <;> omega))
theorem Rising.snoc {es : List Ev} (h : Rising es) {e : Ev} (ht : takesB es e = true) : Rising (es ++ [e]) := by
  unfold Rising
  rw [List.pairwise_append]
  refine ⟨h, List.pairwise_singleton _ _, ?_⟩
  intro a ha b hb
  obtain rfl : b = e := by simpa using hb
  unfold takesB at ht
  rw [Bool.and_eq_true] at ht
  obtain ⟨_, h2⟩ := ht
  cases hl : es.getLast? with
  | none => rw [List.getLast?_eq_none_iff] at hl; subst hl; cases ha
  | some l =>
    rw [hl] at h2
    have h3 := cmpE_tick (of_decide_eq_true h2)
    obtain ⟨ys, rfl⟩ := List.getLast?_eq_some_iff.1 hl
    rcases List.mem_append.1 ha with h4 | h4
    · have := (List.pairwise_append.1 h).2.2 a h4 l (by simp)
      omega
    · obtain rfl : a = l := by simpa using h4
      exact h3
theorem Rising.row {es : List Ev} (h : Rising es) (n : ByteArray) : (rowOf es n).Pairwise fun a b => a.tick ≤ b.tick := by
  have h1 : (ofN es n).Pairwise fun a b => a.tick ≤ b.tick := List.Pairwise.sublist List.filter_sublist h
  have h2 : ((ofN es n).map (·.tick)).Pairwise (· ≤ ·) := List.pairwise_map.2 h1
  rw [← rowOf_ticks] at h2
  exact List.pairwise_map.1 h2

/-- A thing's states up to a tick. -/
def uptoP (r : List St) (t : Int) : List St := r.takeWhile fun s => decide (s.tick ≤ t)
/-- A thing as of a tick. -/
def atP (es : List Ev) (n : ByteArray) (t : Int) : Option It := (uptoP (rowOf es n) t).getLast?.map (·.item)
theorem upto_of {r : List St} {t : Int} {k : Nat} (hk : k ≤ r.length) (h1 : ∀ j s, j < k → r[j]? = some s → s.tick ≤ t) (h2 : ∀ s, r[k]? = some s → t < s.tick) : uptoP r t = r.take k := by
  induction r generalizing k with
  | nil => simp [uptoP]
  | cons s r ih =>
    rcases k with _ | k
    · have := h2 s rfl
      simp only [uptoP, List.take_zero]
      rw [List.takeWhile_cons_of_neg]
      simpa using this
    · have h3 := h1 0 s (by omega) rfl
      simp only [uptoP]
      rw [List.takeWhile_cons_of_pos (by simpa using h3)]
      have := ih (k := k) (by simpa using hk) (fun j s hj hs => h1 (j + 1) s (by omega) (by simpa using hs)) (fun s hs => h2 s (by simpa using hs))
      rw [List.take_succ_cons, ← this]
      rfl

end

section
open Go.Shelf Go.RowKit Go.Maps
set_option linter.unusedVariables false

def itC (x : It) : List Value := [.string x.name, .string x.maker, .string x.tags, .int .i64 x.stock, .int .i64 x.price, .int .i64 x.born, .bool x.listed]
def itA (x : It) : Value := .agg #[.string x.name, .string x.maker, .string x.tags, .int .i64 x.stock, .int .i64 x.price, .int .i64 x.born, .bool x.listed]
def stC (s : St) : List Value := .int .i64 s.tick :: .bool s.isborn :: itC s.item
theorem stC_len (s : St) : (stC s).length = 9 := rfl
theorem stC_one : ∀ (l : List St), ∀ u ∈ l.flatMap stC, u.oneCell' = true := by
  intro l u hu
  obtain ⟨x, _, hx⟩ := List.mem_flatMap.1 hu
  simp [stC, itC] at hx
  rcases hx with rfl | rfl | rfl | rfl | rfl | rfl | rfl | rfl | rfl <;> rfl
theorem st_info : (Tryz.prog.info? 72).map (fun i => (i.zero, i.size, i.bytes)) = some (some (.agg #[.int .i64 0, .bool false, .string ⟨#[]⟩, .string ⟨#[]⟩, .string ⟨#[]⟩, .int .i64 0, .int .i64 0, .int .i64 0, .bool false]), 9, 96) := by kernel_rfl
/-- A state lies at off in block b. -/
def StAt (w : World) (b off : Nat) (s : St) : Prop :=
  w.cell? ⟨b, off, none⟩ = some (.int .i64 s.tick) ∧ w.cell? ⟨b, off + 1, none⟩ = some (.bool s.isborn) ∧ w.cell? ⟨b, off + 2, none⟩ = some (.string s.item.name) ∧ w.cell? ⟨b, off + 3, none⟩ = some (.string s.item.maker) ∧
  w.cell? ⟨b, off + 4, none⟩ = some (.string s.item.tags) ∧ w.cell? ⟨b, off + 5, none⟩ = some (.int .i64 s.item.stock) ∧ w.cell? ⟨b, off + 6, none⟩ = some (.int .i64 s.item.price) ∧ w.cell? ⟨b, off + 7, none⟩ = some (.int .i64 s.item.born) ∧ w.cell? ⟨b, off + 8, none⟩ = some (.bool s.item.listed)
theorem StAt.keep {w w' : World} {b off : Nat} {x : St} (h : StAt w b off x) (hk : ∀ j, w'.cell? ⟨b, j, none⟩ = w.cell? ⟨b, j, none⟩) : StAt w' b off x := by
  obtain ⟨h0, h1, h2, h3, h4, h5, h6, h7, h8⟩ := h
  exact ⟨(hk _).trans h0, (hk _).trans h1, (hk _).trans h2, (hk _).trans h3, (hk _).trans h4, (hk _).trans h5, (hk _).trans h6, (hk _).trans h7, (hk _).trans h8⟩
theorem own_st {w : World} {base : Nat} {g n c : Nat} {e : TypeId} {l : List St} (h : w.ownsRow base e 9 (.slice (some ⟨g, 0, none⟩) n c) n (l.flatMap stC)) : ∀ i x, l[i]? = some x → StAt w g (i * 9) x := by
  intro i x hx
  have g0 := fun j (hj : j < 9) => flat_get stC 9 stC_len l i j x hx hj
  have k := fun j (hj : j < 9) u (hu : (stC x)[j]? = some u) => h.cells (g := g) rfl (i * 9 + j) u ((g0 j hj).trans hu)
  have e : ∀ j, (⟨g, 0, none⟩ : Addr).add j = ⟨g, j, none⟩ := fun j => by rw [at_add, Nat.zero_add]
  simp only [e] at k
  exact ⟨k 0 (by omega) _ rfl, k 1 (by omega) _ rfl, k 2 (by omega) _ rfl, k 3 (by omega) _ rfl, k 4 (by omega) _ rfl, k 5 (by omega) _ rfl, k 6 (by omega) _ rfl, k 7 (by omega) _ rfl, k 8 (by omega) _ rfl⟩

def okSl : Value → Bool
  | .slice _ _ _ => true
  | _ => false
theorem zeroSl (w : World) : (zeroValue 70).run Tryz.prog w = .ok (.slice none 0 0) w := by kernel_rfl

def mapG (G : ByteArray → Option Value) : Lit → Option Value
  | .string l => G ⟨l.toArray⟩
  | _ => none
theorem mapG_at (G : ByteArray → Option Value) (n : ByteArray) : mapG G (.string n.data.toList) = G n := by simp [mapG]
def updG (G : ByteArray → Option Value) (n : ByteArray) (v : Value) : ByteArray → Option Value := fun x => if x = n then some v else G x
theorem ba_list (l : List UInt8) : (⟨l.toArray⟩ : ByteArray).data.toList = l := by simp
theorem str_same (a b : ByteArray) : (Lit.string a.data.toList).sameKey (.string b.data.toList) = decide (a = b) := by
  by_cases h : a = b
  · subst h
    rw [WideAt.sameKey_self (by trivial)]
    simp
  · rw [sameKey_ne (fun e => h (by
      injection e with e
      cases a; cases b
      exact congrArg _ (Array.toList_inj.1 e)))]
    simp [h]
theorem mapG_upd (G : ByteArray → Option Value) (n : ByteArray) (v : Value) : ∀ kl, upd (mapG G) (.string n.data.toList) v kl = mapG (updG G n v) kl := by
  intro kl
  cases kl with
  | string l =>
    have := str_same ⟨l.toArray⟩ n
    rw [ba_list] at this
    unfold upd
    rw [this]
    by_cases h : (⟨l.toArray⟩ : ByteArray) = n <;> simp [mapG, updG, h]
  | _ =>
    unfold upd
    rw [sameKey_ne (by intro h; cases h)]
    rfl

def catCells (a : Bool) (e : Ev) (mb : Nat) : Array Value := #[.bool a, .string e.src, .int .i64 e.num, .int .i64 e.tick, .int .i64 e.kind, .string e.person, .string e.item, .int .i64 e.value, .string e.text, .map (some mb)]
/-- The catalog of the events es lies in block cb, its map in mb; G: the slice of each name; F: all its blocks. -/
structure CatIn (w : World) (cb mb : Nat) (G : ByteArray → Option Value) (last : Ev) (F : Nat → Prop) (es : List Ev) : Prop where
  blk : Blk w cb 66 (catCells (!es.isEmpty) last mb)
  lst : ∀ l, es.getLast? = some l → last = l
  map : MapIs Tryz.prog 9 okSl w mb es.length (mapG G)
  fc : F cb
  fm : F mb
  lt : ∀ q, F q → q < w.heap.size
  none_ : ∀ n, rowOf es n = [] → G n = none
  some_ : ∀ n, rowOf es n ≠ [] → ∃ g cap, G n = some (.slice (some ⟨g, 0, none⟩) (rowOf es n).length cap) ∧ w.ownsRow 0 72 9 (.slice (some ⟨g, 0, none⟩) (rowOf es n).length cap) (rowOf es n).length ((rowOf es n).flatMap stC) ∧ F g ∧ g ≠ cb ∧ g ≠ mb
  apart : ∀ n n' v v', n ≠ n' → G n = some v → G n' = some v' → v.ownBlock ≠ v'.ownBlock
  rise : Rising es
  may : ∀ e ∈ es, catB e = true
  sh : ∀ e ∈ es, EvSh e
def CatAt (w : World) (cb : Nat) (F : Nat → Prop) (es : List Ev) : Prop := ∃ mb G last, CatIn w cb mb G last F es

theorem owns_kept {w w' : World} {base e size n : Nat} {v : Value} {xs : List Value} {S : Nat → Prop} (h : w.ownsRow base e size v n xs) (k : Kept S w w') (hS : ∀ g, v.ownBlock = some g → ¬ S g) : w'.ownsRow base e size v n xs := by
  rcases hv : v.ownBlock with _ | g
  · refine ⟨h.1, ?_⟩
    rcases h.2 with h1 | ⟨g, cap, cur, h1, h2⟩
    · exact Or.inl h1
    · subst h1; cases hv
  · have hlt := (h.lt _ hv).2
    refine ⟨h.1, ?_⟩
    rcases h.2 with h1 | ⟨g', cap, cur, h1, h2, h3, h4⟩
    · exact Or.inl h1
    · subst h1
      cases hv
      exact Or.inr ⟨g', cap, cur, rfl, h2, (k.block _ hlt (hS _ rfl)).trans h3, h4⟩
theorem below_kept {w w' : World} {B : Nat} {S : Nat → Prop} (hb : Below B w w') (hB : w.heap.size ≤ B) : Kept S w w' := ⟨hb.os, hb.tape, hb.output, hb.size, fun i hi _ => hb.block i (by omega)⟩

theorem CatIn.kept {w w' : World} {cb mb : Nat} {G : ByteArray → Option Value} {last : Ev} {F S : Nat → Prop} {es : List Ev} (h : CatIn w cb mb G last F es) (k : Kept S w w') (hS : ∀ q, F q → ¬ S q) : CatIn w' cb mb G last F es := by
  refine ⟨h.blk.kept k (hS _ h.fc), h.lst, h.map.kept k (hS _ h.fm), h.fc, h.fm, fun q hq => Nat.lt_of_lt_of_le (h.lt q hq) k.size, h.none_, fun n hn => ?_, h.apart, h.rise, h.may, h.sh⟩
  obtain ⟨g, cap, h1, h2, h3, h4, h5⟩ := h.some_ n hn
  exact ⟨g, cap, h1, owns_kept h2 k (fun g' hg => by cases hg; exact hS _ h3), h3, h4, h5⟩
theorem CatAt.kept {w w' : World} {cb : Nat} {F S : Nat → Prop} {es : List Ev} (h : CatAt w cb F es) (k : Kept S w w') (hS : ∀ q, F q → ¬ S q) : CatAt w' cb F es := by
  obtain ⟨mb, G, last, h⟩ := h
  exact ⟨mb, G, last, h.kept k hS⟩
theorem CatAt.below {w w' : World} {cb : Nat} {F : Nat → Prop} {es : List Ev} (h : CatAt w cb F es) (k : Below w.heap.size w w') : CatAt w' cb F es := h.kept (below_kept (S := fun _ => False) k (Nat.le_refl _)) (fun _ _ h => h)
theorem CatAt.rise {w : World} {cb : Nat} {F : Nat → Prop} {es : List Ev} (h : CatAt w cb F es) : Rising es := by
  obtain ⟨mb, G, last, h⟩ := h
  exact h.rise
theorem CatAt.sh {w : World} {cb : Nat} {F : Nat → Prop} {es : List Ev} (h : CatAt w cb F es) : ∀ e ∈ es, EvSh e := by
  obtain ⟨mb, G, last, h⟩ := h
  exact h.sh
theorem CatAt.may {w : World} {cb : Nat} {F : Nat → Prop} {es : List Ev} (h : CatAt w cb F es) : ∀ e ∈ es, catB e = true := by
  obtain ⟨mb, G, last, h⟩ := h
  exact h.may
theorem CatAt.lt {w : World} {cb : Nat} {F : Nat → Prop} {es : List Ev} (h : CatAt w cb F es) : ∀ q, F q → q < w.heap.size := by
  obtain ⟨mb, G, last, h⟩ := h
  exact h.lt
theorem CatAt.fc {w : World} {cb : Nat} {F : Nat → Prop} {es : List Ev} (h : CatAt w cb F es) : F cb := by
  obtain ⟨mb, G, last, h⟩ := h
  exact h.fc

theorem rowOf_nil (n : ByteArray) : rowOf [] n = [] := rfl
def ev0 : Ev := ⟨⟨#[]⟩, 0, 0, 0, ⟨#[]⟩, ⟨#[]⟩, 0, ⟨#[]⟩⟩

set_option maxHeartbeats 1000000 in
set_option maxRecDepth 100000 in
theorem new_any (w : World) : Calls Tryz.prog 6 #[] w fun e w' => ∃ cb F, e = .returned (.pointer (some ⟨cb, 0, none⟩)) ∧ CatAt w' cb F [] ∧ (∀ q, F q → w.heap.size ≤ q) ∧ Below w.heap.size w w' := by
  have hmm := @run_makeMap Tryz.prog
  obtain ⟨w1, hw1⟩ : ∃ w1, w.alloc (.map #[] 0) = w1 := ⟨_, rfl⟩
  have z1 : Hid (w1.heap.size = w.heap.size + 1) := Lib.hid (by rw [← hw1]; simp)
  have hM1 : MapIs Tryz.prog 9 okSl w1 w.heap.size 0 (fun _ => none) := by rw [← hw1]; exact MapIs.made _ _ _ _
  have hB1 : Below w.heap.size w w1 := by rw [← hw1]; exact (Below.refl _ _).alloc (Nat.le_refl _) _
  have HM := Lib.hid hM1
  have HB := Lib.hid hB1
  clear hM1 hB1
  go_enter Tryz.func6, Tryz.ntmps6
  go_wp2_with fail
  go_ret
  have z := z1.out
  refine ⟨w1.heap.size, fun q => q = w.heap.size ∨ q = w1.heap.size, rfl, ⟨w.heap.size, fun _ => none, ev0, ?_⟩, ?_, HB.out.alloc (by omega) _⟩
  · refine ⟨Blk.new _ _ _, fun l h => (by cases h), ?_, Or.inr rfl, Or.inl rfl, ?_, fun _ _ => rfl, fun n hn => absurd (rowOf_nil n) hn, fun n n' v v' _ h => (by cases h), List.Pairwise.nil, fun e he => (by cases he), fun e he => (by cases he)⟩
    · refine (HM.out.alloc _).congr fun kl => ?_
      cases kl <;> rfl
    · rintro q (rfl | rfl) <;> simp <;> omega
  · rintro q (rfl | rfl) <;> omega

end

section
open Go.Shelf Go.RowKit Go.Maps
set_option linter.unusedVariables false

set_option maxHeartbeats 1000000 in
set_option maxRecDepth 100000 in
theorem at1_any (rb ab g len cap k : Nat) (t : Int) (s : St) (w : World) (h1 : w.cell? ⟨rb, 0, none⟩ = some (.slice (some ⟨g, 0, none⟩) len cap)) (h2 : w.cell? ⟨ab, 0, none⟩ = some (.int .i64 t)) (hk : k < len) (h3 : StAt w g (k * 9) s) :
    Calls Tryz.prog 33 #[.int .i64 k, .pointer (some ⟨rb, 0, none⟩), .pointer (some ⟨ab, 0, none⟩)] w fun e w' => e = .returned (.bool (decide (t < s.tick))) ∧ ∃ q, w' = w.drewN q := by
  obtain ⟨e0, _⟩ := h3
  have hk8 : (k : Int) < (len : Int) := by omega
  have hk9 : (0 : Int) ≤ (k : Int) := by omega
  go_enter Tryz.func33, Tryz.ntmps33
  go_wp2_with fail
  go_quiet (fail)
  go_wp2_with fail
  go_ret
  exact ⟨rfl, _, rfl⟩

set_option maxHeartbeats 1000000 in
set_option maxRecDepth 100000 in
theorem search_any (rb ab g n cap : Nat) (t : Int) (r : List St) (w : World) (hn : r.length = n) (h1 : w.cell? ⟨rb, 0, none⟩ = some (.slice (some ⟨g, 0, none⟩) n cap)) (h2 : w.cell? ⟨ab, 0, none⟩ = some (.int .i64 t)) (h3 : ∀ i s, r[i]? = some s → StAt w g (i * 9) s) (hr : r.Pairwise fun a b => a.tick ≤ b.tick) (hb : n ≤ 1000000) :
    Calls Tryz.prog 32 #[.int .i64 n, .func (Fn.func 33) #[] #[.pointer (some ⟨rb, 0, none⟩), .pointer (some ⟨ab, 0, none⟩)]] w fun e w' => ∃ k : Nat, e = .returned (.int .i64 k) ∧ k ≤ n ∧ uptoP r t = r.take k ∧ ∃ q, w' = w.drewN q := by
  have HN := Lib.hid hn
  have H3 := Lib.hid h3
  have HR := Lib.hid hr
  have H1 := Lib.hid h1
  have H2 := Lib.hid h2
  clear h3 hr hn h1 h2
  go_enter Tryz.func32, Tryz.ntmps32
  go_wp2_with fail
  go_loopw [5, 6] (fun i j wr => ∃ (a b q : Nat), a ≤ b ∧ b ≤ n ∧ i = .int .i64 a ∧ j = .int .i64 b ∧ Hid (∀ k s, k < a → r[k]? = some s → s.tick ≤ t) ∧ Hid (∀ k s, b ≤ k → r[k]? = some s → t < s.tick) ∧ wr = w.drewN q) (fun i j _ => (intOf j).toNat - (intOf i).toNat)
  case atStart => exact ⟨0, n, 0, Nat.zero_le _, Nat.le_refl _, rfl, rfl, Lib.hid (fun k s hk => by omega), Lib.hid (fun k s hk hs => by have := (List.getElem?_eq_some_iff.1 hs).1; rw [HN.out] at this; omega), rfl⟩
  case round =>
    obtain ⟨a, b, q, hab, hbn, rfl, rfl, hlo, hhi, rfl⟩ := hrel
    by_cases hlt : a < b
    · obtain ⟨m, hm⟩ : ∃ m : Nat, m = (a + b) / 2 := ⟨_, rfl⟩
      obtain ⟨s, hs⟩ : ∃ s, r[m]? = some s := ⟨r[m]'(by rw [HN.out]; omega), List.getElem?_eq_getElem _⟩
      have HA := Lib.hid (at1_any rb ab g n cap m t s (w.drewN q) H1.out H2.out (by omega) (H3.out m s hs))
      have HM2 : Hid (((a : Int) + (b : Int)) / 2 = (m : Int)) := Lib.hid (by omega)
      have HM := Lib.hid hm
      have hmb : m < 1000000 := by omega
      clear hm
      have HS := Lib.hid hs
      clear hs
      go_wp2_with fail
      rw [HM2.out]
      refine HA.out.mono ?_
      rintro e w1 ⟨rfl, q1, rfl⟩
      clear HA
      by_cases hgt : t < s.tick
      · have hd : decide (t < s.tick) = true := decide_eq_true hgt
        have HGT := Lib.hid hgt
        clear hgt
        go_wp2_with fail
        have hm := HM.out
        have hgt := HGT.out
        go_roundw
        case rel =>
          refine ⟨a, m, q + q1, by omega, by omega, rfl, rfl, hlo, Lib.hid (fun k s' hk hs' => ?_), by first | rfl | simp⟩
          rcases Nat.lt_or_eq_of_le hk with h | h
          · have := List.pairwise_iff_getElem.1 HR.out m k (List.getElem?_eq_some_iff.1 HS.out).1 (List.getElem?_eq_some_iff.1 hs').1 h
            rw [(List.getElem?_eq_some_iff.1 HS.out).2, (List.getElem?_eq_some_iff.1 hs').2] at this
            omega
          · subst h
            rw [HS.out] at hs'
            cases hs'
            exact hgt
        case measure => simp [intOf]; omega
      · have hd : decide (t < s.tick) = false := decide_eq_false hgt
        have HGT := Lib.hid hgt
        clear hgt
        go_wp2_with fail
        have hm := HM.out
        have hgt := HGT.out
        go_roundw
        case rel =>
          refine ⟨m + 1, b, q + q1, by omega, by omega, by go_num, rfl, Lib.hid (fun k s' hk hs' => ?_), hhi, by first | rfl | simp⟩
          rcases Nat.lt_or_eq_of_le (Nat.le_of_lt_succ hk) with h | h
          · have := List.pairwise_iff_getElem.1 HR.out k m (List.getElem?_eq_some_iff.1 hs').1 (List.getElem?_eq_some_iff.1 HS.out).1 h
            rw [(List.getElem?_eq_some_iff.1 HS.out).2, (List.getElem?_eq_some_iff.1 hs').2] at this
            omega
          · subst h
            rw [HS.out] at hs'
            cases hs'
            omega
        case measure => simp [intOf]; omega
    · obtain rfl : a = b := by omega
      go_wp2_with fail
      go_ret
      exact ⟨a, rfl, hbn, upto_of (by rw [HN.out]; exact hbn) hlo.out (fun s hs => hhi.out a s (Nat.le_refl _) hs), _, rfl⟩

set_option maxHeartbeats 1000000 in
set_option maxRecDepth 100000 in
theorem search_none (f : Value) (w : World) : Calls Tryz.prog 32 #[.int .i64 0, f] w fun e w' => e = .returned (.int .i64 0) ∧ w' = w := by
  go_enter Tryz.func32, Tryz.ntmps32
  go_wp2_with fail
  go_loopw [5, 6] (fun i j wr => i = .int .i64 0 ∧ j = .int .i64 0 ∧ wr = w) (fun _ _ _ => 0)
  case atStart => exact ⟨rfl, rfl, rfl⟩
  case round =>
    obtain ⟨rfl, rfl, rfl⟩ := hrel
    go_wp2_with fail
    go_ret
    exact ⟨rfl, rfl⟩

/-- What At tells. -/
def toldP (x : Option It) : Value := .tuple #[itA (x.getD it0), .bool x.isSome]

set_option maxHeartbeats 2000000 in
set_option maxRecDepth 100000 in
theorem at_any (cb : Nat) (F : Nat → Prop) (es : List Ev) (n : ByteArray) (t : Int) (w : World) (h : CatAt w cb F es) (hn : n.size ≤ 1000000) (hb : es.length ≤ 1000000) :
    Calls Tryz.prog 12 #[.pointer (some ⟨cb, 0, none⟩), .string n, .int .i64 t] w fun e w' => e = .returned (toldP (atP es n t)) ∧ Below w.heap.size w w' := by
  have hmf : ∀ (fn : Fn) (first cap : Array Value) (w : World), (Instr.makeFunc fn first cap).run Tryz.prog w = .ok (.func fn first cap) w := fun _ _ _ _ => rfl
  obtain ⟨mb, G, last, h⟩ := h
  obtain ⟨w1, hw1⟩ : ∃ w1, w.alloc (.cells #[.int .i64 t] 3) = w1 := ⟨_, rfl⟩
  obtain ⟨w2, hw2⟩ : ∃ w2, w1.alloc (.cells #[.string ⟨#[]⟩, .string ⟨#[]⟩, .string ⟨#[]⟩, .int .i64 0, .int .i64 0, .int .i64 0, .bool false] 47) = w2 := ⟨_, rfl⟩
  have hB2 : Below w.heap.size w w2 := by rw [← hw2, ← hw1]; exact ((Below.refl _ _).alloc (Nat.le_refl _) _).alloc (by simp) _
  have z1 : Hid (w1.heap.size = w.heap.size + 1) := Lib.hid (by rw [← hw1]; simp)
  have z2 : Hid (w2.heap.size = w.heap.size + 2) := Lib.hid (by rw [← hw2, World.size_alloc, z1.out])
  have h2 := h.kept (below_kept (S := fun _ => False) hB2 (Nat.le_refl _)) (fun _ _ h => h)
  have hlk := h2.map.look (string_keyed Tryz.underlying9) Tryz.underlying64 (zeroSl w2) rfl (WideMaps.keyOf_string_mk Tryz.underlying9 (s := n) (by unfold maxLen; omega))
  rw [mapG_at] at hlk
  have c9 : w2.cell? ⟨cb, 9, none⟩ = some (.map (some mb)) := h2.blk.cell 9
  have ba : Blk w2 w.heap.size 3 #[.int .i64 t] := by rw [← hw2, ← hw1]; exact (Blk.new _ _ _).alloc _
  have bi : Blk w2 w1.heap.size 47 #[.string ⟨#[]⟩, .string ⟨#[]⟩, .string ⟨#[]⟩, .int .i64 0, .int .i64 0, .int .i64 0, .bool false] := by rw [← hw2]; exact Blk.new _ _ _
  have HPS : Hid (∀ (w' : World) x0 x1 x2 x3 x4 x5 x6, w2.heap.size < w'.heap.size → Below w.heap.size w w' → Below w.heap.size w (((((((w'.setCell ⟨w1.heap.size, 0, none⟩ x0).setCell ⟨w1.heap.size, 1, none⟩ x1).setCell ⟨w1.heap.size, 2, none⟩ x2).setCell ⟨w1.heap.size, 3, none⟩ x3).setCell ⟨w1.heap.size, 4, none⟩ x4).setCell ⟨w1.heap.size, 5, none⟩ x5).setCell ⟨w1.heap.size, 6, none⟩ x6)) := Lib.hid (fun w' x0 x1 x2 x3 x4 x5 x6 _ h => by
    have hq : w.heap.size ≤ w1.heap.size := by rw [z1.out]; omega
    exact ((((((h.setCell (p := ⟨w1.heap.size, 0, none⟩) hq _).setCell (p := ⟨w1.heap.size, 1, none⟩) hq _).setCell (p := ⟨w1.heap.size, 2, none⟩) hq _).setCell (p := ⟨w1.heap.size, 3, none⟩) hq _).setCell (p := ⟨w1.heap.size, 4, none⟩) hq _).setCell (p := ⟨w1.heap.size, 5, none⟩) hq _).setCell (p := ⟨w1.heap.size, 6, none⟩) hq _)
  by_cases hr : rowOf es n = []
  · rw [h.none_ n hr] at hlk
    dsimp only [Option.getD_none] at hlk
    have HP : Hid (toldP (atP es n t) = .tuple #[.agg #[.string ⟨#[]⟩, .string ⟨#[]⟩, .string ⟨#[]⟩, .int .i64 0, .int .i64 0, .int .i64 0, .bool false], .bool false]) := Lib.hid (by unfold atP; rw [hr]; rfl)
    have HB2 := Lib.hid hB2
    have HBI := Lib.hid bi
    clear h h2 hr hB2 bi ba
    go_enter Tryz.func12, Tryz.ntmps12
    go_wp2_with fail
    obtain ⟨w3, hw3⟩ : ∃ w3, w2.alloc (.cells #[.slice none 0 0] 70) = w3 := ⟨_, rfl⟩
    rw [hw3]
    have bi3 : Blk w3 w1.heap.size 47 #[.string ⟨#[]⟩, .string ⟨#[]⟩, .string ⟨#[]⟩, .int .i64 0, .int .i64 0, .int .i64 0, .bool false] := by rw [← hw3]; exact HBI.out.alloc _
    have br3 : Blk w3 w2.heap.size 70 #[.slice none 0 0] := by rw [← hw3]; exact Blk.new _ _ _
    have r0 : w3.cell? ⟨w2.heap.size, 0, none⟩ = some (.slice none 0 0) := br3.cell 0
    have i0 : w3.cell? ⟨w1.heap.size, 0, none⟩ = some (.string ⟨#[]⟩) := bi3.cell 0
    have i1 : w3.cell? ⟨w1.heap.size, 1, none⟩ = some (.string ⟨#[]⟩) := bi3.cell 1
    have i2 : w3.cell? ⟨w1.heap.size, 2, none⟩ = some (.string ⟨#[]⟩) := bi3.cell 2
    have i3 : w3.cell? ⟨w1.heap.size, 3, none⟩ = some (.int .i64 0) := bi3.cell 3
    have i4 : w3.cell? ⟨w1.heap.size, 4, none⟩ = some (.int .i64 0) := bi3.cell 4
    have i5 : w3.cell? ⟨w1.heap.size, 5, none⟩ = some (.int .i64 0) := bi3.cell 5
    have i6 : w3.cell? ⟨w1.heap.size, 6, none⟩ = some (.bool false) := bi3.cell 6
    have f0 : w3.frozen? ⟨w1.heap.size, 0, none⟩ = false := bi3.frozen 0
    have f1 : w3.frozen? ⟨w1.heap.size, 1, none⟩ = false := bi3.frozen 1
    have f2 : w3.frozen? ⟨w1.heap.size, 2, none⟩ = false := bi3.frozen 2
    have f3 : w3.frozen? ⟨w1.heap.size, 3, none⟩ = false := bi3.frozen 3
    have f4 : w3.frozen? ⟨w1.heap.size, 4, none⟩ = false := bi3.frozen 4
    have f5 : w3.frozen? ⟨w1.heap.size, 5, none⟩ = false := bi3.frozen 5
    have f6 : w3.frozen? ⟨w1.heap.size, 6, none⟩ = false := bi3.frozen 6
    have HB3 : Hid (Below w.heap.size w w3) := Lib.hid (by rw [← hw3]; exact HB2.out.alloc HB2.out.size _)
    have HZ3 : Hid (w2.heap.size < w3.heap.size) := Lib.hid (by rw [← hw3]; simp)
    clear bi3 br3 hw3
    refine (search_none _ _).mono ?_
    rintro e w4 ⟨rfl, rfl⟩
    go_wp2_with fail
    refine bodyPost_ret (v := .tuple #[.agg #[.string ⟨#[]⟩, .string ⟨#[]⟩, .string ⟨#[]⟩, .int .i64 0, .int .i64 0, .int .i64 0, .bool false], .bool false]) (by simp [results, Tryz.results12, go_sem, i0, i1, i2, i3, i4, i5, i6]) rfl ⟨?_, ?_⟩
    · rw [HP.out]
    · exact HPS.out _ _ _ _ _ _ _ _ HZ3.out HB3.out
  · obtain ⟨g, cap, hG, hown, hF, _, _⟩ := h2.some_ n hr
    rw [hG] at hlk
    dsimp only [Option.getD_some] at hlk
    have HB2 := Lib.hid hB2
    have HBI := Lib.hid bi
    have HBA := Lib.hid ba
    have HST := Lib.hid (own_st hown)
    have HRS := Lib.hid (h.rise.row n)
    have hrl := rowOf_le es n
    have hgl : g < w2.heap.size := h2.lt g hF
    have HAT : Hid (atP es n t = (uptoP (rowOf es n) t).getLast?.map (·.item)) := Lib.hid rfl
    generalize rowOf es n = r at *
    obtain ⟨N, hN⟩ : ∃ N, r.length = N := ⟨_, rfl⟩
    rw [hN] at hlk hrl
    have HN := Lib.hid hN
    clear h h2 hr hB2 bi ba hown hN hG hF
    go_enter Tryz.func12, Tryz.ntmps12
    go_wp2_with fail
    obtain ⟨w3, hw3⟩ : ∃ w3, w2.alloc (.cells #[.slice (some ⟨g, 0, none⟩) N cap] 70) = w3 := ⟨_, rfl⟩
    rw [hw3]
    have bi3 : Blk w3 w1.heap.size 47 #[.string ⟨#[]⟩, .string ⟨#[]⟩, .string ⟨#[]⟩, .int .i64 0, .int .i64 0, .int .i64 0, .bool false] := by rw [← hw3]; exact HBI.out.alloc _
    have br3 : Blk w3 w2.heap.size 70 #[.slice (some ⟨g, 0, none⟩) N cap] := by rw [← hw3]; exact Blk.new _ _ _
    have r0 : w3.cell? ⟨w2.heap.size, 0, none⟩ = some (.slice (some ⟨g, 0, none⟩) N cap) := br3.cell 0
    have i0 : w3.cell? ⟨w1.heap.size, 0, none⟩ = some (.string ⟨#[]⟩) := bi3.cell 0
    have i1 : w3.cell? ⟨w1.heap.size, 1, none⟩ = some (.string ⟨#[]⟩) := bi3.cell 1
    have i2 : w3.cell? ⟨w1.heap.size, 2, none⟩ = some (.string ⟨#[]⟩) := bi3.cell 2
    have i3 : w3.cell? ⟨w1.heap.size, 3, none⟩ = some (.int .i64 0) := bi3.cell 3
    have i4 : w3.cell? ⟨w1.heap.size, 4, none⟩ = some (.int .i64 0) := bi3.cell 4
    have i5 : w3.cell? ⟨w1.heap.size, 5, none⟩ = some (.int .i64 0) := bi3.cell 5
    have i6 : w3.cell? ⟨w1.heap.size, 6, none⟩ = some (.bool false) := bi3.cell 6
    have f0 : w3.frozen? ⟨w1.heap.size, 0, none⟩ = false := bi3.frozen 0
    have f1 : w3.frozen? ⟨w1.heap.size, 1, none⟩ = false := bi3.frozen 1
    have f2 : w3.frozen? ⟨w1.heap.size, 2, none⟩ = false := bi3.frozen 2
    have f3 : w3.frozen? ⟨w1.heap.size, 3, none⟩ = false := bi3.frozen 3
    have f4 : w3.frozen? ⟨w1.heap.size, 4, none⟩ = false := bi3.frozen 4
    have f5 : w3.frozen? ⟨w1.heap.size, 5, none⟩ = false := bi3.frozen 5
    have f6 : w3.frozen? ⟨w1.heap.size, 6, none⟩ = false := bi3.frozen 6
    have HB3 : Hid (Below w.heap.size w w3) := Lib.hid (by rw [← hw3]; exact HB2.out.alloc HB2.out.size _)
    have HZ3 : Hid (w2.heap.size < w3.heap.size) := Lib.hid (by rw [← hw3]; simp)
    have ba3 : w3.cell? ⟨w.heap.size, 0, none⟩ = some (.int .i64 t) := by rw [← hw3]; exact (HBA.out.alloc _).cell 0
    have HST3 : Hid (∀ i x, r[i]? = some x → StAt w3 g (i * 9) x) := Lib.hid (fun i x hx => by rw [← hw3]; exact (HST.out i x hx).keep (fun j => World.cell?_alloc_lt _ _ ⟨g, j, none⟩ hgl))
    have HS := Lib.hid (search_any w2.heap.size w.heap.size g N cap t r w3 HN.out r0 ba3 HST3.out HRS.out (by omega))
    clear bi3 br3 hw3 ba3
    refine HS.out.mono ?_
    rintro e w4 ⟨k, rfl, hk, hup, q, rfl⟩
    clear HS HST HRS HBA
    rcases k with _ | k
    · have HP : Hid (toldP (atP es n t) = .tuple #[.agg #[.string ⟨#[]⟩, .string ⟨#[]⟩, .string ⟨#[]⟩, .int .i64 0, .int .i64 0, .int .i64 0, .bool false], .bool false]) := Lib.hid (by rw [HAT.out, hup]; rfl)
      clear hup
      go_wp2_with fail
      refine bodyPost_ret (v := .tuple #[.agg #[.string ⟨#[]⟩, .string ⟨#[]⟩, .string ⟨#[]⟩, .int .i64 0, .int .i64 0, .int .i64 0, .bool false], .bool false]) (by simp [results, Tryz.results12, go_sem, i0, i1, i2, i3, i4, i5, i6]) rfl ⟨?_, ?_⟩
      · rw [HP.out]
      · exact HPS.out _ _ _ _ _ _ _ _ HZ3.out (below_drewN HB3.out q)
    · obtain ⟨s, hs⟩ : ∃ s, r[k]? = some s := ⟨r[k]'(by rw [HN.out]; omega), List.getElem?_eq_getElem _⟩
      obtain ⟨e0, e1, e2, e3, e4, e5, e6, e7, e8⟩ := HST3.out k s hs
      have HP : Hid (toldP (atP es n t) = .tuple #[.agg #[.string s.item.name, .string s.item.maker, .string s.item.tags, .int .i64 s.item.stock, .int .i64 s.item.price, .int .i64 s.item.born, .bool s.item.listed], .bool true]) := Lib.hid (by
        have : (r.take (k + 1)).getLast? = some s := by rw [List.take_add_one, hs]; simp
        rw [HAT.out, hup, this]; rfl)
      have hk1 : (0 : Int) ≤ ((k + 1 : Nat) : Int) - 1 := by omega
      have hk2 : ((k + 1 : Nat) : Int) - 1 < (N : Int) := by omega
      have hk3 : (((k + 1 : Nat) : Int) - 1).toNat = k := by omega
      have hk4 : ((((k + 1 : Nat) : Int)) == 0) = false := by rw [beq_eq_false_iff_ne]; omega
      clear hup hs HST3 HAT
      go_wp2_with fail
      refine bodyPost_ret (v := .tuple #[.agg #[.string s.item.name, .string s.item.maker, .string s.item.tags, .int .i64 s.item.stock, .int .i64 s.item.price, .int .i64 s.item.born, .bool s.item.listed], .bool true]) (by simp [results, Tryz.results12, go_sem, i0, i1, i2, i3, i4, i5, i6]) rfl ⟨?_, ?_⟩
      · rw [HP.out]
      · exact HPS.out _ _ _ _ _ _ _ _ HZ3.out (below_drewN HB3.out q)

end

section
open Go.Shelf Go.RowKit Go.Maps
set_option linter.unusedVariables false

/-- One event more. -/
theorem CatIn.more {w w' : World} {cb mb : Nat} {G : ByteArray → Option Value} {last x : Ev} {F : Nat → Prop} {es : List Ev} {A A' : Option Addr} {N cap c' : Nat} (h : CatIn w cb mb G last F es) (hC : Blk w' cb 66 (catCells true x mb))
    (hm : MapIs Tryz.prog 9 okSl w' mb (es.length + 1) (upd (mapG G) (.string x.item.data.toList) (.slice A' (N + 1) c'))) (hk : Kept (fun q => q = cb ∨ q = mb ∨ (Value.slice A N cap).ownBlock = some q) w w') (hG : (G x.item).getD (.slice none 0 0) = .slice A N cap) (hN : (rowOf es x.item).length = N)
    (ho : w'.ownsRow 0 72 9 (.slice A' (N + 1) c') (N + 1) ((rowOf es x.item).flatMap stC ++ stC (stepSt ((rowOf es x.item).getLast?.getD (st0 x.item)) x))) (hv : (Value.slice A' (N + 1) c').ownBlock = (Value.slice A N cap).ownBlock ∨ ∃ g, (Value.slice A' (N + 1) c').ownBlock = some g ∧ w.heap.size ≤ g) (ht : takesB es x = true) (hmc : mb ≠ cb) (hsx : EvSh x) :
    CatIn w' cb mb (updG G x.item (.slice A' (N + 1) c')) x (fun q => F q ∨ (Value.slice A' (N + 1) c').ownBlock = some q) (es ++ [x]) := by
  have hcl := h.lt _ h.fc
  have hml := h.lt _ h.fm
  have hrow : rowOf (es ++ [x]) x.item = rowOf es x.item ++ [stepSt ((rowOf es x.item).getLast?.getD (st0 x.item)) x] := by rw [rowOf_snoc, if_pos rfl]; rfl
  have hrow2 : ∀ n, n ≠ x.item → rowOf (es ++ [x]) n = rowOf es n := fun n hn => by rw [rowOf_snoc, if_neg (fun e => hn e.symm)]
  have hold : ∀ g, (Value.slice A N cap).ownBlock = some g → F g ∧ g ≠ cb ∧ g ≠ mb ∧ G x.item = some (.slice A N cap) := by
    intro g hg
    by_cases hr : rowOf es x.item = []
    · rw [h.none_ _ hr] at hG
      cases hG
      cases hg
    · obtain ⟨g', cap', e1, _, e2, e3, e4⟩ := h.some_ _ hr
      rw [e1] at hG
      have e5 : Value.slice (some ⟨g', 0, none⟩) (rowOf es x.item).length cap' = .slice A N cap := hG
      rw [← e5] at hg
      cases hg
      exact ⟨e2, e3, e4, by rw [e1, e5]⟩
  obtain ⟨gn, cn, hform, _, hlt⟩ := ho.form (Nat.succ_pos _)
  have hgn : (Value.slice A' (N + 1) c').ownBlock = some gn := by rw [hform]; rfl
  have hne : gn ≠ cb ∧ gn ≠ mb := by
    rcases hv with hv | ⟨g, hv, hg⟩
    · rw [hgn] at hv
      exact ⟨(hold gn hv.symm).2.1, (hold gn hv.symm).2.2.1⟩
    · rw [hgn] at hv
      cases hv
      exact ⟨by omega, by omega⟩
  refine ⟨?_, ?_, ?_, Or.inl h.fc, Or.inl h.fm, ?_, ?_, ?_, ?_, h.rise.snoc ht, ?_, ?_⟩
  · have : (!(es ++ [x]).isEmpty) = true := by simp
    rw [this]; exact hC
  · intro l hl
    rw [List.getLast?_concat] at hl
    cases hl; rfl
  · have := hm.congr (mapG_upd G x.item _)
    rw [List.length_append]
    exact this
  · rintro q (hq | hq)
    · exact Nat.lt_of_lt_of_le (h.lt q hq) hk.size
    · exact (ho.lt _ hq).2
  · intro n hn
    by_cases e : n = x.item
    · subst e; rw [hrow] at hn; simp at hn
    · rw [hrow2 n e] at hn
      unfold updG
      rw [if_neg e]
      exact h.none_ n hn
  · intro n hn
    by_cases e : n = x.item
    · subst e
      rw [hrow]
      have hl : (rowOf es x.item ++ [stepSt ((rowOf es x.item).getLast?.getD (st0 x.item)) x]).length = N + 1 := by simp [hN]
      rw [hl, List.flatMap_append]
      refine ⟨gn, cn, ?_, ?_, Or.inr hgn, hne.1, hne.2⟩
      · unfold updG; rw [if_pos rfl, hform]
      · rw [← hform]
        have : [stepSt ((rowOf es x.item).getLast?.getD (st0 x.item)) x].flatMap stC = stC (stepSt ((rowOf es x.item).getLast?.getD (st0 x.item)) x) := by simp
        rw [this]
        exact ho
    · rw [hrow2 n e] at hn ⊢
      obtain ⟨g, cap', e1, e2, e3, e4, e5⟩ := h.some_ n hn
      refine ⟨g, cap', ?_, owns_kept e2 hk (fun g' hg => ?_), Or.inl e3, e4, e5⟩
      · unfold updG; rw [if_neg e]; exact e1
      · cases hg
        rintro (hq | hq | hq)
        · exact e4 hq
        · exact e5 hq
        · exact h.apart n x.item _ _ e e1 (hold g hq).2.2.2 hq.symm
  · intro n n' v v' hnn hgv hgv'
    unfold updG at hgv hgv'
    have key : ∀ m u, m ≠ x.item → G m = some u → u.ownBlock ≠ (Value.slice A' (N + 1) c').ownBlock := by
      intro m u hm hu he
      by_cases hr : rowOf es m = []
      · rw [h.none_ _ hr] at hu; cases hu
      · obtain ⟨g, cap', e1, e2, e3, e4, e5⟩ := h.some_ m hr
        rw [e1] at hu
        cases hu
        rw [hgn] at he
        have hgg : g = gn := Option.some.inj (show some g = some gn from he)
        rcases hv with hv | ⟨g2, hv, hg2⟩
        · rw [hgn] at hv
          exact h.apart m x.item _ _ hm e1 (hold gn hv.symm).2.2.2 (he.trans hv)
        · rw [hgn] at hv
          have h2 : gn = g2 := Option.some.inj hv
          have := h.lt _ e3
          omega
    by_cases e : n = x.item
    · rw [if_pos e] at hgv
      cases hgv
      rw [if_neg (fun e' => hnn (e.trans e'.symm))] at hgv'
      exact (key n' v' (fun e' => hnn (e.trans e'.symm)) hgv').symm
    · rw [if_neg e] at hgv
      by_cases e' : n' = x.item
      · rw [if_pos e'] at hgv'
        cases hgv'
        exact key n v e hgv
      · rw [if_neg e'] at hgv'
        exact h.apart n n' v v' hnn hgv hgv'
  · intro e he
    rcases List.mem_append.1 he with he | he
    · exact h.may e he
    · obtain rfl : e = x := by simpa using he
      unfold takesB at ht
      rw [Bool.and_eq_true] at ht
      exact ht.1
  · intro e he
    rcases List.mem_append.1 he with he | he
    · exact h.sh e he
    · obtain rfl : e = x := by simpa using he
      exact hsx

end

end Go.Proofs.YtdcinodbgbkobaaGreatDoor

/- The document of rules: not. -/
import Derived.Test.YtpgbgeofhcpocaaGreatDoorDrW
namespace Go.Proofs.YtpgbgeofhcpocaaGreatDoor
open Go.RowKit Go.Maps Go.Shelf
set_option linter.unusedVariables false

abbrev STA : TypeId := 56
abbrev NOA : TypeId := 33
def stA (A : Option Addr) (n c J : Nat) (ok : Bool) : Array Value := #[.slice A n c, .int .i64 J, .bool ok]
def dvA (v : DV) : Array Value := #[.int .i64 v.k, .slice v.A v.m v.c, .string v.s]
def st0 : Array Value := #[.slice none 0 0, .int .i64 0, .bool false]
def no0 : Array Value := #[.int .i64 0, .slice none 0 0, .string ⟨#[]⟩]
theorem Blk.at3 {w : World} {b : Nat} {t : TypeId} {x y z : Value} (h : Blk w b t #[x, y, z]) : w.cell? ⟨b, 0, none⟩ = some x ∧ w.cell? ⟨b, 1, none⟩ = some y ∧ w.cell? ⟨b, 2, none⟩ = some z ∧ w.frozen? ⟨b, 0, none⟩ = false ∧ w.frozen? ⟨b, 1, none⟩ = false ∧ w.frozen? ⟨b, 2, none⟩ = false :=
  ⟨h.cell 0, h.cell 1, h.cell 2, h.frozen 0, h.frozen 1, h.frozen 2⟩
theorem Blk.under {w w' : World} {b : Nat} {t : TypeId} {cs : Array Value} (h : Blk w b t cs) (k : Below w.heap.size w w') : Blk w' b t cs := (k.block b h.lt).trans h
theorem load_st {w : World} {rb : Nat} {A : Option Addr} {n c J : Nat} {ok : Bool} (h : Blk w rb STA #[.slice A n c, .int .i64 J, .bool ok]) : (loadVar STA ⟨rb, 0, none⟩).run Tryz.prog w = .ok (.agg #[.slice A n c, .int .i64 J, .bool ok]) w := by
  have c0 := h.cell 0; have c1 := h.cell 1; have c2 := h.cell 2
  simp at c0 c1 c2
  unfold loadVar
  go_simp
theorem load_no {w : World} {rb : Nat} {k m c : Nat} {A : Option Addr} {s : ByteArray} (h : Blk w rb NOA #[.int .i64 k, .slice A m c, .string s]) : (loadVar NOA ⟨rb, 0, none⟩).run Tryz.prog w = .ok (.agg #[.int .i64 k, .slice A m c, .string s]) w := by
  have c0 := h.cell 0; have c1 := h.cell 1; have c2 := h.cell 2
  simp at c0 c1 c2
  unfold loadVar
  go_simp
theorem results_cc {fn : Func} {t u : Tmp} {x y : Value} {rb rc : Nat} {tmps : Array Value} {w : World} (h : fn.results = #[.cell t STA, .cell u NOA]) (hp : tmps.getD t undef = .pointer (some ⟨rb, 0, none⟩)) (hq : tmps.getD u undef = .pointer (some ⟨rc, 0, none⟩)) (hl : (loadVar STA ⟨rb, 0, none⟩).run Tryz.prog w = .ok x w) (hl2 : (loadVar NOA ⟨rc, 0, none⟩).run Tryz.prog w = .ok y w) :
    (results fn tmps).run Tryz.prog w = .ok (.tuple #[x, y]) w := by
  have hp' : tmps[t]?.getD undef = .pointer (some ⟨rb, 0, none⟩) := by simpa using hp
  have hq' : tmps[u]?.getD undef = .pointer (some ⟨rc, 0, none⟩) := by simpa using hq
  simp [results, h, hp', hq', asAddr, hl, hl2]

theorem Blk.set3 {w : World} {b : Nat} {t : TypeId} {p q r : Value} (h : Blk w b t #[p, q, r]) (x y z : Value) : Blk (((w.setCell ⟨b, 0, none⟩ x).setCell ⟨b, 1, none⟩ y).setCell ⟨b, 2, none⟩ z) b t #[x, y, z] := by
  have e : ((#[p, q, r].setIfInBounds 0 x).setIfInBounds 1 y).setIfInBounds 2 z = #[x, y, z] := by simp
  rw [← e]
  exact ((h.set_ 0 x).set_ 1 y).set_ 2 z
theorem Blk.far1 {w : World} {b b' : Nat} {t : TypeId} {cs : Array Value} (h : Blk w b t cs) (hne : b' ≠ b) (i : Nat) (u : Value) : Blk (w.setCell ⟨b', i, none⟩ u) b t cs := (Below.heap_setCell w ⟨b', i, none⟩ u b (fun e => hne e.symm)).trans h
theorem Blk.far3 {w : World} {b b' : Nat} {t : TypeId} {cs : Array Value} (h : Blk w b t cs) (hne : b' ≠ b) (x y z : Value) : Blk (((w.setCell ⟨b', 0, none⟩ x).setCell ⟨b', 1, none⟩ y).setCell ⟨b', 2, none⟩ z) b t cs := ((h.far1 hne 0 x).far1 hne 1 y).far1 hne 2 z
theorem Kept.kept3 {a w : World} {S : Nat → Prop} {b : Nat} (h : Kept S a w) (hb : S b) (x y z : Value) : Kept S a (((w.setCell ⟨b, 0, none⟩ x).setCell ⟨b, 1, none⟩ y).setCell ⟨b, 2, none⟩ z) := ((h.setCell (p := ⟨b, 0, none⟩) (Or.inl hb) x).setCell (p := ⟨b, 1, none⟩) (Or.inl hb) y).setCell (p := ⟨b, 2, none⟩) (Or.inl hb) z
/-- What a level handed back is put into two boxes. -/
structure Boxed (w5 w8 : World) (x y z p q r : Value) : Prop where
  st : Blk w8 w5.heap.size STA #[x, y, z]
  no : Blk w8 (w5.heap.size + 1) NOA #[p, q, r]
  below : Below w5.heap.size w5 w8
  size : w8.heap.size = w5.heap.size + 2
theorem boxes (w5 w6 w7 : World) (h6 : w5.alloc (.cells #[.slice none 0 0, .int .i64 0, .bool false] STA) = w6) (h7 : w6.alloc (.cells #[.int .i64 0, .slice none 0 0, .string ⟨#[]⟩] NOA) = w7) : Blk w7 w5.heap.size STA #[.slice none 0 0, .int .i64 0, .bool false] ∧ Blk w7 (w5.heap.size + 1) NOA #[.int .i64 0, .slice none 0 0, .string ⟨#[]⟩] := by
  have z6 : w6.heap.size = w5.heap.size + 1 := by rw [← h6]; simp
  have k7 : Below w6.heap.size w6 w7 := by rw [← h7]; exact (Below.refl _ _).alloc (Nat.le_refl _) _
  refine ⟨?_, ?_⟩
  · have : Blk w6 w5.heap.size STA #[.slice none 0 0, .int .i64 0, .bool false] := by rw [← h6]; exact Blk.new _ _ _
    exact this.under k7
  · have : Blk w7 w6.heap.size NOA #[.int .i64 0, .slice none 0 0, .string ⟨#[]⟩] := by rw [← h7]; exact Blk.new _ _ _
    rwa [z6] at this
theorem boxed (w5 w6 w7 w8 : World) (x y z p q r : Value) (h6 : w5.alloc (.cells #[.slice none 0 0, .int .i64 0, .bool false] STA) = w6) (h7 : w6.alloc (.cells #[.int .i64 0, .slice none 0 0, .string ⟨#[]⟩] NOA) = w7)
    (h8 : (((((w7.setCell ⟨w5.heap.size, 0, none⟩ x).setCell ⟨w5.heap.size, 1, none⟩ y).setCell ⟨w5.heap.size, 2, none⟩ z).setCell ⟨w5.heap.size + 1, 0, none⟩ p).setCell ⟨w5.heap.size + 1, 1, none⟩ q).setCell ⟨w5.heap.size + 1, 2, none⟩ r = w8) : Boxed w5 w8 x y z p q r := by
  have z6 : w6.heap.size = w5.heap.size + 1 := by rw [← h6]; simp
  have z7 : w7.heap.size = w5.heap.size + 2 := by rw [← h7]; simp [z6]
  have k6 : Below w5.heap.size w5 w6 := by rw [← h6]; exact (Below.refl _ _).alloc (Nat.le_refl _) _
  have k7 : Below w6.heap.size w6 w7 := by rw [← h7]; exact (Below.refl _ _).alloc (Nat.le_refl _) _
  have b6 : Blk w7 w5.heap.size STA #[.slice none 0 0, .int .i64 0, .bool false] := by
    have : Blk w6 w5.heap.size STA #[.slice none 0 0, .int .i64 0, .bool false] := by rw [← h6]; exact Blk.new _ _ _
    exact this.under k7
  have b7 : Blk w7 (w5.heap.size + 1) NOA #[.int .i64 0, .slice none 0 0, .string ⟨#[]⟩] := by
    have : Blk w7 w6.heap.size NOA #[.int .i64 0, .slice none 0 0, .string ⟨#[]⟩] := by rw [← h7]; exact Blk.new _ _ _
    rwa [z6] at this
  have s1 := b6.set3 x y z
  have n1 := (b7.far3 (b' := w5.heap.size) (by omega) x y z).set3 p q r
  have KK : Kept (fun i => w5.heap.size ≤ i) w7 w8 := by
    rw [← h8]
    exact ((Kept.refl _ w7).kept3 (Nat.le_refl _) x y z).kept3 (Nat.le_succ _) p q r
  refine ⟨?_, ?_, ?_, ?_⟩
  · rw [← h8]
    exact s1.far3 (by omega) p q r
  · rw [← h8]
    exact n1
  · exact (k6.trans (k7.mono (by omega))).trans (KK.toBelow (B := w5.heap.size) (fun i hi => hi) (by omega))
  · have hz : ∀ (w : World) (b : Nat) (x y z : Value), (((w.setCell ⟨b, 0, none⟩ x).setCell ⟨b, 1, none⟩ y).setCell ⟨b, 2, none⟩ z).heap.size = w.heap.size := fun w b x y z => by simp [World.setCell]
    rw [← h8, hz, hz, z7]
theorem store6 {w w9 : World} {b c : Nat} {a1 a2 a3 a4 a5 a6 x y z p q r : Value} (hb : Blk w b STA #[a1, a2, a3]) (hc : Blk w c NOA #[a4, a5, a6]) (hne : b ≠ c) (h : (((((w.setCell ⟨b, 0, none⟩ x).setCell ⟨b, 1, none⟩ y).setCell ⟨b, 2, none⟩ z).setCell ⟨c, 0, none⟩ p).setCell ⟨c, 1, none⟩ q).setCell ⟨c, 2, none⟩ r = w9) : Blk w9 b STA #[x, y, z] ∧ Blk w9 c NOA #[p, q, r] ∧ Kept (fun i => i = b ∨ i = c) w w9 := by
  rw [← h]
  exact ⟨(hb.set3 x y z).far3 (fun e => hne e.symm) p q r, (hc.far3 hne x y z).set3 p q r, ((Kept.refl _ w).kept3 (Or.inl rfl) x y z).kept3 (Or.inr rfl) p q r⟩
theorem RowD.single {w : World} {g : Nat} {v : DV} (h : Blk w g NOA #[.int .i64 v.k, .slice v.A v.m v.c, .string v.s]) {B : Nat} (hB : B ≤ g) : RowD w B (some ⟨g, 0, none⟩) 1 1 [v] := by
  refine ⟨⟨rfl, Or.inr ⟨g, 0, rfl, h.lt, fun j u hu => ?_⟩⟩, rfl, fun g' o' e => by injection e with e; injection e with e; omega, fun e => by cases e⟩
  rw [h.cell, ← hu, Nat.zero_add]
  simp [DV.cs]
theorem dok_not {w : World} {B N : Nat} {g : Nat} {v : DV} (h : RowD w B (some ⟨g, 0, none⟩) 1 1 [v]) (hN : 1 ≤ N) : DOk w B N ⟨3, some ⟨g, 0, none⟩, 1, 1, ⟨#[]⟩⟩ := ⟨hN, ⟨[v], h⟩, hN, by show 3 ≤ 4; omega, fun h => by rcases h with h | h <;> cases h⟩
theorem dok_atom (w : World) (B N : Nat) (x : ByteArray) (hN : 1 ≤ N) : DOk w B N ⟨4, none, 0, 0, x⟩ := ⟨hN, ⟨[], .nil w B⟩, Nat.zero_le _, Nat.le_refl _, fun h => by rcases h with h | h <;> cases h⟩
theorem drop_tail {all : List Tk} {I : Nat} : tx (all.drop (I + 1)) = (tx (all.drop I)).tail := tail_drop.symm

set_option maxHeartbeats 4000000 in
set_option maxRecDepth 100000 in
theorem dnot_of (m : Nat) (hno : ∀ m', m' < m → DrOk 36 args2 2 m') (hor : ∀ m', m' < m → DrOk 15 args2 0 m') : DrOk 36 args2 2 m := by
  intro A n c all I B d i e w hi he henv hI hm hd40 hB
  subst hi he
  unfold args2
  obtain ⟨t, g, o, ht, hhd, hsz, hne, rfl, hg, e0, _⟩ := henv.at hI
  obtain ⟨x, hx⟩ : ∃ x, t.1 = x := ⟨_, rfl⟩
  rw [hx] at hhd hsz hne e0
  have HHD := Lib.hid hhd
  have HENV := Lib.hid henv
  have HLEN : Hid (all.length = n) := Lib.hid henv.len
  have hfew : n ≤ 3001 := henv.few
  have Hno := Lib.hid hno
  have Hor := Lib.hid hor
  clear hx ht hhd henv hno hor
  obtain ⟨w1, hw1⟩ : ∃ w1, w.alloc (.cells #[.slice (some ⟨g, o, none⟩) n c, .int .i64 I, .bool true] STA) = w1 := ⟨_, rfl⟩
  obtain ⟨w2, hw2⟩ : ∃ w2, w1.alloc (.cells #[.slice none 0 0, .int .i64 0, .bool false] STA) = w2 := ⟨_, rfl⟩
  obtain ⟨w3, hw3⟩ : ∃ w3, w2.alloc (.cells #[.int .i64 0, .slice none 0 0, .string ⟨#[]⟩] NOA) = w3 := ⟨_, rfl⟩
  have z1 : w1.heap.size = w.heap.size + 1 := by rw [← hw1]; simp
  have z2 : w2.heap.size = w.heap.size + 1 + 1 := by rw [← hw2]; simp [z1]
  have z3 : w3.heap.size = w.heap.size + 3 := by rw [← hw3]; simp [z2]
  have k1 : Below w.heap.size w w1 := by rw [← hw1]; exact (Below.refl _ _).alloc (Nat.le_refl _) _
  have k2 : Below w1.heap.size w1 w2 := by rw [← hw2]; exact (Below.refl _ _).alloc (Nat.le_refl _) _
  have k3 : Below w2.heap.size w2 w3 := by rw [← hw3]; exact (Below.refl _ _).alloc (Nat.le_refl _) _
  have B2 : Blk w3 w.heap.size STA #[.slice (some ⟨g, o, none⟩) n c, .int .i64 I, .bool true] := by
    have : Blk w1 w.heap.size STA #[.slice (some ⟨g, o, none⟩) n c, .int .i64 I, .bool true] := by rw [← hw1]; exact Blk.new _ _ _
    exact (this.under k2).under k3
  have B4 : Blk w3 (w.heap.size + 1) STA #[.slice none 0 0, .int .i64 0, .bool false] := by
    have : Blk w2 w1.heap.size STA #[.slice none 0 0, .int .i64 0, .bool false] := by rw [← hw2]; exact Blk.new _ _ _
    rw [z1] at this
    exact this.under k3
  have B5 : Blk w3 (w.heap.size + 2) NOA #[.int .i64 0, .slice none 0 0, .string ⟨#[]⟩] := by
    have : Blk w3 w2.heap.size NOA #[.int .i64 0, .slice none 0 0, .string ⟨#[]⟩] := by rw [← hw3]; exact Blk.new _ _ _
    rw [z2] at this
    exact this
  have HK : Hid (Below w.heap.size w w3) := Lib.hid ((k1.trans (k2.mono (by omega))).trans (k3.mono (by omega)))
  obtain ⟨c20, c21, c22, f20, f21, f22⟩ := B2.at3
  have e0' : w3.cell? ⟨g, o + I * 2, none⟩ = some (.string x) := by rw [HK.out.cell hg]; exact e0
  have HB2 := Lib.hid B2
  have HB4 := Lib.hid B4
  have HB5 := Lib.hid B5
  have HZ3 := Lib.hid z3
  have HZ1 := Lib.hid z1
  have HZ2 := Lib.hid z2
  clear k1 k2 k3 B2 B4 B5 z3


  go_enter Tryz.func36, Tryz.ntmps36
  by_cases hxn : x = notW
  · have q1 : (x.toList == [110, 111, 116]) = true := lit_yes hxn
    have hI2 : I + 1 < n := hne (by rw [hxn]; decide)
    have hIw : IntKind.i64.wrap ((I : Int) + 1) = (I : Int) + 1 := by rw [IntKind.wrap_i64]; omega
    obtain ⟨w4, hw4⟩ : ∃ w4, w3.setCell ⟨w.heap.size, 1, none⟩ (.int .i64 ((I : Int) + 1)) = w4 := ⟨_, rfl⟩
    have HK4 : Hid (Below w.heap.size w w4) := Lib.hid (by rw [← hw4]; exact HK.out.setCell (Nat.le_refl _) _)
    have HB4' : Hid (Blk w4 (w.heap.size + 1) STA #[.slice none 0 0, .int .i64 0, .bool false] ∧ Blk w4 (w.heap.size + 2) NOA #[.int .i64 0, .slice none 0 0, .string ⟨#[]⟩] ∧ w4.heap.size = w.heap.size + 3) := Lib.hid (by
      rw [← hw4]
      exact ⟨HB4.out.far1 (by omega) _ _, HB5.out.far1 (by omega) _ _, by rw [← HZ3.out]; simp [World.setCell]⟩)
    have B24 : Blk w4 w.heap.size STA #[.slice (some ⟨g, o, none⟩) n c, .int .i64 ((I : Int) + 1), .bool true] := by
      have e : #[Value.slice (some ⟨g, o, none⟩) n c, .int .i64 I, .bool true].setIfInBounds 1 (.int .i64 ((I : Int) + 1)) = #[.slice (some ⟨g, o, none⟩) n c, .int .i64 ((I : Int) + 1), .bool true] := by simp
      rw [← e, ← hw4]
      exact HB2.out.set_ 1 _
    obtain ⟨d20, d21, d22, g20, g21, g22⟩ := B24.at3
    have HB24 := Lib.hid B24
    clear B24
    have HC : Hid (Calls Tryz.prog 36 #[.agg #[.slice (some ⟨g, o, none⟩) n c, .int .i64 ((I : Int) + 1), .bool true], .int .i64 d] w4 fun e w' => DrPost 2 w4.heap.size d (some ⟨g, o, none⟩) n c all (I + 1) w4 e w') := Lib.hid (Hno.out (n - (I + 1)) (by omega) (some ⟨g, o, none⟩) n c all (I + 1) w4.heap.size d _ _ w4 (by omega) rfl (HENV.out.below HK4.out) hI2 rfl hd40 (Nat.le_refl _))
    have HHX := Lib.hid (HHD.out.trans hxn)
    clear hxn hne HB2 HB4 HB5 HK HZ3 Hno Hor
    go_wp2_with fail
    refine HC.out.mono ?_
    rintro e w5 ⟨v, ok, J, ns, rfl, hdi⟩
    have HDI := Lib.hid hdi
    clear hdi hw4 hw3 hw2 hw1 z1 z2 c20 c21 c22 f20 f21 f22 e0 e0' HC
    obtain ⟨w6, hw6⟩ : ∃ w6, w5.alloc (.cells #[.slice none 0 0, .int .i64 0, .bool false] STA) = w6 := ⟨_, rfl⟩
    obtain ⟨w7, hw7⟩ : ∃ w7, w6.alloc (.cells #[.int .i64 0, .slice none 0 0, .string ⟨#[]⟩] NOA) = w7 := ⟨_, rfl⟩
    have y6 : w6.heap.size = w5.heap.size + 1 := by rw [← hw6]; simp
    obtain ⟨w8, hw8⟩ : ∃ w8, (((((w7.setCell ⟨w5.heap.size, 0, none⟩ (.slice (some ⟨g, o, none⟩) n c)).setCell ⟨w5.heap.size, 1, none⟩ (.int .i64 J)).setCell ⟨w5.heap.size, 2, none⟩ (.bool ok)).setCell ⟨w5.heap.size + 1, 0, none⟩ (.int .i64 v.k)).setCell ⟨w5.heap.size + 1, 1, none⟩ (.slice v.A v.m v.c)).setCell ⟨w5.heap.size + 1, 2, none⟩ (.string v.s) = w8 := ⟨_, rfl⟩
    have HBX := Lib.hid (boxed w5 w6 w7 w8 _ _ _ _ _ _ hw6 hw7 hw8)
    obtain ⟨m0, m1, m2, p0, p1, p2⟩ := (boxes w5 w6 w7 hw6 hw7).1.at3
    obtain ⟨m3, m4, m5, p3, p4, p5⟩ := (boxes w5 w6 w7 hw6 hw7).2.at3
    go_upto_region 5 with fail
    have HX8 : Hid (Below w.heap.size w w8 ∧ Blk w8 (w.heap.size + 1) STA #[.slice none 0 0, .int .i64 0, .bool false] ∧ Blk w8 (w.heap.size + 2) NOA #[.int .i64 0, .slice none 0 0, .string ⟨#[]⟩] ∧ w4.heap.size ≤ w8.heap.size ∧ Below w5.heap.size w5 w8 ∧ w8.heap.size = w5.heap.size + 2 ∧ w.heap.size + 3 ≤ w5.heap.size) := Lib.hid (by
      obtain ⟨b4, b5, z4⟩ := HB4'.out
      have k5 := HDI.out.below
      have k8 := HBX.out.below
      have k48 := k5.trans (k8.mono k5.size)
      exact ⟨HK4.out.trans (k48.mono (by omega)), b4.under k48, b5.under k48, k48.size, k8, HBX.out.size, by have := k5.size; omega⟩)
    clear m0 m1 m2 p0 p1 p2 m3 m4 m5 p3 p4 p5 hw6 hw7 hw8 y6 d20 d21 d22 g20 g21 g22
    have HSC : Hid (∀ W, Kept (fun i => i = w.heap.size + 1 ∨ i = w.heap.size + 2) w8 W → W.cell? ⟨w5.heap.size, 0, none⟩ = some (.slice (some ⟨g, o, none⟩) n c) ∧ W.cell? ⟨w5.heap.size, 1, none⟩ = some (.int .i64 J) ∧ W.cell? ⟨w5.heap.size, 2, none⟩ = some (.bool ok) ∧ W.cell? ⟨w5.heap.size + 1, 0, none⟩ = some (.int .i64 v.k) ∧ W.cell? ⟨w5.heap.size + 1, 1, none⟩ = some (.slice v.A v.m v.c) ∧ W.cell? ⟨w5.heap.size + 1, 2, none⟩ = some (.string v.s)) := Lib.hid (fun W hW => by
      have k1 := HBX.out.st.kept hW (fun h => by have := HX8.out.2.2.2.2.2.2; omega)
      have k2 := HBX.out.no.kept hW (fun h => by have := HX8.out.2.2.2.2.2.2; omega)
      exact ⟨k1.cell 0, k1.cell 1, k1.cell 2, k2.cell 0, k2.cell 1, k2.cell 2⟩)
    have HEND : Hid (∀ gb Wf, w8.heap.size ≤ gb → Blk Wf gb NOA #[.int .i64 v.k, .slice v.A v.m v.c, .string v.s] → Kept (fun i => i = w.heap.size + 1 ∨ i = w.heap.size + 2) w8 Wf → DrPost 2 B d (some ⟨g, o, none⟩) n c all I w (.returned (.tuple #[.agg #[.slice (some ⟨g, o, none⟩) n c, .int .i64 J, .bool ok], .agg #[.int .i64 3, .slice (some ⟨gb, 0, none⟩) 1 1, .string ⟨#[]⟩]])) Wf) := Lib.hid (fun gb Wf hgb hbk hkp => by
      obtain ⟨a1, a2, a3, a4, a5, a6⟩ := HDI.out
      obtain ⟨x1, x2, x3, x4, x5, x6, x7⟩ := HX8.out
      have hr : RowD Wf B (some ⟨gb, 0, none⟩) 1 1 [v] := RowD.single hbk (by have := x1.size; omega)
      have z4 := HB4'.out.2.2
      refine ⟨⟨3, some ⟨gb, 0, none⟩, 1, 1, ⟨#[]⟩⟩, ok, J, [.no (nodeOf 2 ns)], rfl, ⟨?_, by omega, a3, dok_not hr (by omega), fun ho => ?_, ?_⟩⟩
      · exact .no HHX.out (by rw [tail_drop]; exact a1)
      · have h5 := ((a5 ho).keep x5.size (fun i hi _ => x5.block i hi)).keep (w' := Wf) hkp.size (fun i hi hB => hkp.block i hi (fun h => by omega))
        exact .no hr (h5.low (by have := HB4'.out.2.2; omega))
      · exact x1.trans (hkp.toBelow (B := w.heap.size) (fun i hi => by omega) x1.size))
    have HS0 : Hid (Kept (fun i => i = w.heap.size + 1 ∨ i = w.heap.size + 2) w8 w8.drew) := Lib.hid (Kept.refl _ _).drew
    have HZ8 : Hid (w.heap.size + 2 < w8.heap.size) := Lib.hid (by have := HX8.out.2.2.2.2.2; omega)
    refine wp_planT (fun V => Kept (fun i => i = w.heap.size + 1 ∨ i = w.heap.size + 2) w8 V) (.take 0 (.take 1 (.fork 2 (.take 3 (.turn 4 (.turn 5 .done))) 4 (.turn 2 (.take 3 (.turn 5 .done)))))) (by kernel_rfl) (by kernel_rfl) HS0.out ?_
    simp only [planTL, List.getElem?_cons_zero, List.getElem?_cons_succ]
    repeat (first | (refine planT_on _ (by rfl) (fun W hW => by (obtain ⟨q0, q1, q2, q3, q4, q5⟩ := HSC.out W hW; go_simp; try with_reducible rfl)) ?_; simp only [Act.put, List.setIfInBounds_toArray, List.set_cons_zero, List.set_cons_succ]) | (refine planT_off (by rfl) ?_; simp only [Act.put, List.setIfInBounds_toArray, List.set_cons_zero, List.set_cons_succ]))
    refine planT_fork ?_ ?_
    · obtain ⟨w9, hw9⟩ : ∃ w9, w8.drew.alloc (.cells #[.int .i64 v.k, .slice v.A v.m v.c, .string v.s] NOA) = w9 := ⟨_, rfl⟩
      have HK9 : Hid (Kept (fun i => i = w.heap.size + 1 ∨ i = w.heap.size + 2) w8 w9 ∧ Blk w9 w8.heap.size NOA #[.int .i64 v.k, .slice v.A v.m v.c, .string v.s]) := Lib.hid ⟨by rw [← hw9]; exact HS0.out.alloc _, by rw [← hw9]; exact Blk.new w8.drew _ _⟩
      have HB49 : Hid (Blk w9 (w.heap.size + 1) STA #[.slice none 0 0, .int .i64 0, .bool false] ∧ Blk w9 (w.heap.size + 2) NOA #[.int .i64 0, .slice none 0 0, .string ⟨#[]⟩]) := Lib.hid (by rw [← hw9]; exact ⟨HX8.out.2.1.drew.alloc _, HX8.out.2.2.1.drew.alloc _⟩)
      have hz9 : w8.drew.heap.size = w8.heap.size := rfl
      go_wp2_with fail
      clear hw9 hz9
      refine ⟨HK9.out.1, ?_⟩
      repeat (first | (refine planT_on _ (by rfl) (fun W hW => by (obtain ⟨q0, q1, q2, q3, q4, q5⟩ := HSC.out W hW; go_simp; try with_reducible rfl)) ?_; simp only [Act.put, List.setIfInBounds_toArray, List.set_cons_zero, List.set_cons_succ]) | (refine planT_off (by rfl) ?_; simp only [Act.put, List.setIfInBounds_toArray, List.set_cons_zero, List.set_cons_succ]))
      refine planT_turn ?_
      refine wpList_store_blk w9 rfl STA _ _ rfl 0 #[.slice (some ⟨g, o, none⟩) n c, .int .i64 J, .bool ok] rfl rfl HB49.out.1 (by show 0 + 3 ≤ 3; omega) (by kernel_rfl) (by simp [Value.oneCell']) ?_
      intro Wa hba hka hza
      have HBA : Hid (Blk Wa (w.heap.size + 1) STA #[.slice (some ⟨g, o, none⟩) n c, .int .i64 J, .bool ok]) := Lib.hid hba
      have HKA : Hid (Kept (fun i => i = w.heap.size + 1 ∨ i = w.heap.size + 2) w8 Wa) := Lib.hid (HK9.out.1.trans' hka (fun i _ hi => Or.inl hi))
      have HBN : Hid (Blk Wa (w.heap.size + 2) NOA #[.int .i64 0, .slice none 0 0, .string ⟨#[]⟩]) := Lib.hid (HB49.out.2.kept hka (by omega))
      have HBG : Hid (Blk Wa w8.heap.size NOA #[.int .i64 v.k, .slice v.A v.m v.c, .string v.s]) := Lib.hid (HK9.out.2.kept hka (by have := HZ8.out; omega))
      clear hba hka hza
      go_wp2_with fail
      refine ⟨HKA.out, ?_⟩
      refine planT_turn ?_
      refine wpList_store_blk Wa rfl NOA _ _ rfl 0 #[.int .i64 3, .slice (some ⟨w8.heap.size, 0, none⟩) 1 1, .string ⟨#[]⟩] rfl rfl HBN.out (by show 0 + 3 ≤ 3; omega) (by kernel_rfl) (by simp [Value.oneCell']) ?_
      intro Wb hbb hkb hzb
      have HBB : Hid (Blk Wb (w.heap.size + 2) NOA #[.int .i64 (3 : Nat), .slice (some ⟨w8.heap.size, 0, none⟩) 1 1, .string ⟨#[]⟩]) := Lib.hid hbb
      have HBA2 : Hid (Blk Wb (w.heap.size + 1) STA #[.slice (some ⟨g, o, none⟩) n c, .int .i64 J, .bool ok]) := Lib.hid (HBA.out.kept hkb (by omega))
      have HKB : Hid (Kept (fun i => i = w.heap.size + 1 ∨ i = w.heap.size + 2) w8 Wb) := Lib.hid (HKA.out.trans' hkb (fun i _ hi => Or.inr hi))
      have HBG2 : Hid (Blk Wb w8.heap.size NOA #[.int .i64 v.k, .slice v.A v.m v.c, .string v.s]) := Lib.hid (HBG.out.kept hkb (by have := HZ8.out; omega))
      clear hbb hkb hzb
      go_wp2_with fail
      refine ⟨HKB.out, ?_⟩
      refine planT_done ?_
      go_wp2_with fail
      refine bodyPost_ret (results_cc (rb := w.heap.size + 1) (rc := w.heap.size + 2) rfl rfl rfl (load_st HBA2.out) (load_no HBB.out)) rfl ?_
      exact HEND.out _ _ (Nat.le_refl _) HBG2.out HKB.out
    · refine wpList_store_blk w8.drew rfl STA _ _ rfl 0 #[.slice (some ⟨g, o, none⟩) n c, .int .i64 J, .bool ok] rfl rfl HX8.out.2.1.drew (by show 0 + 3 ≤ 3; omega) (by kernel_rfl) (by simp [Value.oneCell']) ?_
      intro Wa hba hka hza
      have HBA : Hid (Blk Wa (w.heap.size + 1) STA #[.slice (some ⟨g, o, none⟩) n c, .int .i64 J, .bool ok]) := Lib.hid hba
      have HKA : Hid (Kept (fun i => i = w.heap.size + 1 ∨ i = w.heap.size + 2) w8 Wa) := Lib.hid (HS0.out.trans' hka (fun i _ hi => Or.inl hi))
      have HBN : Hid (Blk Wa (w.heap.size + 2) NOA #[.int .i64 0, .slice none 0 0, .string ⟨#[]⟩]) := Lib.hid (HX8.out.2.2.1.drew.kept hka (by omega))
      clear hba hka hza
      go_wp2_with fail
      refine ⟨HKA.out, ?_⟩
      refine planT_turn ?_
      obtain ⟨w9, hw9⟩ : ∃ w9, Wa.alloc (.cells #[.int .i64 v.k, .slice v.A v.m v.c, .string v.s] NOA) = w9 := ⟨_, rfl⟩
      have HZA : Hid (w8.heap.size ≤ Wa.heap.size) := Lib.hid HKA.out.size
      have HK9 : Hid (Kept (fun i => i = w.heap.size + 1 ∨ i = w.heap.size + 2) w8 w9 ∧ Blk w9 Wa.heap.size NOA #[.int .i64 v.k, .slice v.A v.m v.c, .string v.s]) := Lib.hid ⟨by rw [← hw9]; exact HKA.out.alloc _, by rw [← hw9]; exact Blk.new Wa _ _⟩
      have HBA9 : Hid (Blk w9 (w.heap.size + 1) STA #[.slice (some ⟨g, o, none⟩) n c, .int .i64 J, .bool ok]) := Lib.hid (by rw [← hw9]; exact HBA.out.alloc _)
      have HBN9 : Hid (Blk w9 (w.heap.size + 2) NOA #[.int .i64 0, .slice none 0 0, .string ⟨#[]⟩]) := Lib.hid (by rw [← hw9]; exact HBN.out.alloc _)
      go_wp2_with fail
      clear hw9
      refine ⟨HK9.out.1, ?_⟩
      repeat (first | (refine planT_on _ (by rfl) (fun W hW => by (obtain ⟨q0, q1, q2, q3, q4, q5⟩ := HSC.out W hW; go_simp; try with_reducible rfl)) ?_; simp only [Act.put, List.setIfInBounds_toArray, List.set_cons_zero, List.set_cons_succ]) | (refine planT_off (by rfl) ?_; simp only [Act.put, List.setIfInBounds_toArray, List.set_cons_zero, List.set_cons_succ]))
      refine planT_turn ?_
      refine wpList_store_blk w9 rfl NOA _ _ rfl 0 #[.int .i64 3, .slice (some ⟨Wa.heap.size, 0, none⟩) 1 1, .string ⟨#[]⟩] rfl rfl HBN9.out (by show 0 + 3 ≤ 3; omega) (by kernel_rfl) (by simp [Value.oneCell']) ?_
      intro Wb hbb hkb hzb
      have HBB : Hid (Blk Wb (w.heap.size + 2) NOA #[.int .i64 (3 : Nat), .slice (some ⟨Wa.heap.size, 0, none⟩) 1 1, .string ⟨#[]⟩]) := Lib.hid hbb
      have HBA2 : Hid (Blk Wb (w.heap.size + 1) STA #[.slice (some ⟨g, o, none⟩) n c, .int .i64 J, .bool ok]) := Lib.hid (HBA9.out.kept hkb (by omega))
      have HKB : Hid (Kept (fun i => i = w.heap.size + 1 ∨ i = w.heap.size + 2) w8 Wb) := Lib.hid (HK9.out.1.trans' hkb (fun i _ hi => Or.inr hi))
      have HBG2 : Hid (Blk Wb Wa.heap.size NOA #[.int .i64 v.k, .slice v.A v.m v.c, .string v.s]) := Lib.hid (HK9.out.2.kept hkb (by have := HZ8.out; have := HZA.out; omega))
      clear hbb hkb hzb
      go_wp2_with fail
      refine ⟨HKB.out, ?_⟩
      refine planT_done ?_
      go_wp2_with fail
      refine bodyPost_ret (results_cc (rb := w.heap.size + 1) (rc := w.heap.size + 2) rfl rfl rfl (load_st HBA2.out) (load_no HBB.out)) rfl ?_
      exact HEND.out _ _ HZA.out HBG2.out HKB.out
  have r1 : (x.toList == [110, 111, 116]) = false := lit_no hxn
  by_cases hxo : x = openW ∧ d < 40
  · have q1 : (x.toList == [40]) = true := lit_yes hxo.1
    have q2 : (d : Int) < 40 := by have := hxo.2; omega
    have hI2 : I + 1 < n := hne (by rw [hxo.1]; decide)
    have hIw : IntKind.i64.wrap ((I : Int) + 1) = (I : Int) + 1 := by rw [IntKind.wrap_i64]; omega
    have hdw : IntKind.i64.wrap ((d : Int) + 1) = (d : Int) + 1 := by rw [IntKind.wrap_i64]; omega
    obtain ⟨w4, hw4⟩ : ∃ w4, w3.setCell ⟨w.heap.size, 1, none⟩ (.int .i64 ((I : Int) + 1)) = w4 := ⟨_, rfl⟩
    have HK4 : Hid (Below w.heap.size w w4) := Lib.hid (by rw [← hw4]; exact HK.out.setCell (Nat.le_refl _) _)
    have HB4' : Hid (Blk w4 (w.heap.size + 1) STA #[.slice none 0 0, .int .i64 0, .bool false] ∧ Blk w4 (w.heap.size + 2) NOA #[.int .i64 0, .slice none 0 0, .string ⟨#[]⟩] ∧ w4.heap.size = w.heap.size + 3) := Lib.hid (by
      rw [← hw4]
      exact ⟨HB4.out.far1 (by omega) _ _, HB5.out.far1 (by omega) _ _, by rw [← HZ3.out]; simp [World.setCell]⟩)
    have B24 : Blk w4 w.heap.size STA #[.slice (some ⟨g, o, none⟩) n c, .int .i64 ((I : Int) + 1), .bool true] := by
      have e : #[Value.slice (some ⟨g, o, none⟩) n c, .int .i64 I, .bool true].setIfInBounds 1 (.int .i64 ((I : Int) + 1)) = #[.slice (some ⟨g, o, none⟩) n c, .int .i64 ((I : Int) + 1), .bool true] := by simp
      rw [← e, ← hw4]
      exact HB2.out.set_ 1 _
    obtain ⟨d20, d21, d22, g20, g21, g22⟩ := B24.at3
    have HB24 := Lib.hid B24
    clear B24
    have HC : Hid (Calls Tryz.prog 15 #[.agg #[.slice (some ⟨g, o, none⟩) n c, .int .i64 ((I : Int) + 1), .bool true], .int .i64 ((d : Int) + 1)] w4 fun e w' => DrPost 0 w4.heap.size (d + 1) (some ⟨g, o, none⟩) n c all (I + 1) w4 e w') := Lib.hid (Hor.out (n - (I + 1)) (by omega) (some ⟨g, o, none⟩) n c all (I + 1) w4.heap.size (d + 1) _ _ w4 (by omega) (by omega) (HENV.out.below HK4.out) hI2 rfl (by omega) (Nat.le_refl _))
    have HHX : Hid (hd (tx (all.drop I)) = openW ∧ d < 40) := Lib.hid ⟨HHD.out.trans hxo.1, hxo.2⟩
    clear hxo hne HB2 HB4 HB5 HK HZ3 Hno Hor
    go_wp2_with fail
    refine HC.out.mono ?_
    rintro e w5 ⟨v, ok, J, ns, rfl, hdi⟩
    have HDI := Lib.hid hdi
    clear hdi hw4 hw3 hw2 hw1 z1 z2 c20 c21 c22 f20 f21 f22 e0 e0' HC
    obtain ⟨w6, hw6⟩ : ∃ w6, w5.alloc (.cells #[.slice none 0 0, .int .i64 0, .bool false] STA) = w6 := ⟨_, rfl⟩
    obtain ⟨w7, hw7⟩ : ∃ w7, w6.alloc (.cells #[.int .i64 0, .slice none 0 0, .string ⟨#[]⟩] NOA) = w7 := ⟨_, rfl⟩
    have y6 : w6.heap.size = w5.heap.size + 1 := by rw [← hw6]; simp
    obtain ⟨w8, hw8⟩ : ∃ w8, (((((w7.setCell ⟨w5.heap.size, 0, none⟩ (.slice (some ⟨g, o, none⟩) n c)).setCell ⟨w5.heap.size, 1, none⟩ (.int .i64 J)).setCell ⟨w5.heap.size, 2, none⟩ (.bool ok)).setCell ⟨w5.heap.size + 1, 0, none⟩ (.int .i64 v.k)).setCell ⟨w5.heap.size + 1, 1, none⟩ (.slice v.A v.m v.c)).setCell ⟨w5.heap.size + 1, 2, none⟩ (.string v.s) = w8 := ⟨_, rfl⟩
    have HBX := Lib.hid (boxed w5 w6 w7 w8 _ _ _ _ _ _ hw6 hw7 hw8)
    obtain ⟨m0, m1, m2, p0, p1, p2⟩ := (boxes w5 w6 w7 hw6 hw7).1.at3
    obtain ⟨m3, m4, m5, p3, p4, p5⟩ := (boxes w5 w6 w7 hw6 hw7).2.at3
    go_upto_region 9 with fail
    have HX8 : Hid (Below w.heap.size w w8 ∧ Blk w8 (w.heap.size + 1) STA #[.slice none 0 0, .int .i64 0, .bool false] ∧ Blk w8 (w.heap.size + 2) NOA #[.int .i64 0, .slice none 0 0, .string ⟨#[]⟩] ∧ w4.heap.size ≤ w8.heap.size ∧ Below w5.heap.size w5 w8 ∧ w8.heap.size = w5.heap.size + 2 ∧ w.heap.size + 3 ≤ w5.heap.size) := Lib.hid (by
      obtain ⟨b4, b5, z4⟩ := HB4'.out
      have k5 := HDI.out.below
      have k8 := HBX.out.below
      have k48 := k5.trans (k8.mono k5.size)
      exact ⟨HK4.out.trans (k48.mono (by omega)), b4.under k48, b5.under k48, k48.size, k8, HBX.out.size, by have := k5.size; omega⟩)
    clear m0 m1 m2 p0 p1 p2 m3 m4 m5 p3 p4 p5 hw6 hw7 hw8 y6 d20 d21 d22 g20 g21 g22
    have HFIN : Hid (∀ (V Wf : World) (ok' : Bool) (J' : Nat), Below w5.heap.size w5 V → Below w.heap.size w V → Kept (fun i => i = w.heap.size + 1 ∨ i = w.heap.size + 2) V Wf → J ≤ J' → J' < n → (∀ ns', (ok' = true → ns' = [nodeOf 0 ns] ∧ ok = true) → P 2 d (tx (all.drop I)) ok' (tx (all.drop J')) ns' → DrPost 2 B d (some ⟨g, o, none⟩) n c all I w (.returned (.tuple #[.agg #[.slice (some ⟨g, o, none⟩) n c, .int .i64 J', .bool ok'], .agg #[.int .i64 v.k, .slice v.A v.m v.c, .string v.s]])) Wf)) := Lib.hid (fun V Wf ok' J' h1 h2 h3 h4 h4b ns' h5 h6 => by
      obtain ⟨a1, a2, a3, a4, a5, a6⟩ := HDI.out
      have z4 := HB4'.out.2.2
      have z7 := HX8.out.2.2.2.2.2.2
      refine ⟨v, ok', J', ns', rfl, ⟨h6, by omega, by rw [HLEN.out]; exact h4b, ?_, fun ho => ?_, h2.trans (h3.toBelow (B := w.heap.size) (fun i hi => by omega) h2.size)⟩⟩
      · exact ((((a4.keep h1.size (fun i hi _ => h1.block i hi)).keep (w' := Wf) h3.size (fun i hi hB => h3.block i hi (fun h => by omega))).low (by omega)).mono (by omega))
      · obtain ⟨rfl, hok⟩ := h5 ho
        exact (((a5 hok).keep h1.size (fun i hi _ => h1.block i hi)).keep (w' := Wf) h3.size (fun i hi hB => h3.block i hi (fun h => by omega))).low (by omega))
    have hJn : J < n := by rw [← HLEN.out]; exact HDI.out.lt
    obtain ⟨b0, b1, b2, _, _, gb2⟩ := HBX.out.st.at3
    have gb1 := HBX.out.st.frozen 1
    cases ok
    · go_upto_region 10 with fail
      clear b0 b1 b2 gb1 gb2
      have HSC : Hid (∀ W, Kept (fun i => i = w.heap.size + 1 ∨ i = w.heap.size + 2) w8 W → W.cell? ⟨w5.heap.size, 0, none⟩ = some (.slice (some ⟨g, o, none⟩) n c) ∧ W.cell? ⟨w5.heap.size, 1, none⟩ = some (.int .i64 J) ∧ W.cell? ⟨w5.heap.size, 2, none⟩ = some (.bool false) ∧ W.cell? ⟨w5.heap.size + 1, 0, none⟩ = some (.int .i64 v.k) ∧ W.cell? ⟨w5.heap.size + 1, 1, none⟩ = some (.slice v.A v.m v.c) ∧ W.cell? ⟨w5.heap.size + 1, 2, none⟩ = some (.string v.s)) := Lib.hid (fun W hW => by
        have k1 := HBX.out.st.kept hW (fun h => by have := HX8.out.2.2.2.2.2.2; omega)
        have k2 := HBX.out.no.kept hW (fun h => by have := HX8.out.2.2.2.2.2.2; omega)
        exact ⟨k1.cell 0, k1.cell 1, k1.cell 2, k2.cell 0, k2.cell 1, k2.cell 2⟩)
      have HS0 : Hid (Kept (fun i => i = w.heap.size + 1 ∨ i = w.heap.size + 2) w8 w8.drew) := Lib.hid (Kept.refl _ _).drew
      refine wp_plan (fun V' => Kept (fun i => i = w.heap.size + 1 ∨ i = w.heap.size + 2) w8 V') [(0, false), (1, false), (2, true), (3, true)] (by kernel_rfl) (by kernel_rfl) HS0.out ?_
      simp only [planL, List.getElem?_cons_zero, List.getElem?_cons_succ]
      repeat (first | (refine plan_on _ (by rfl) (fun W hW => by (obtain ⟨q0, q1, q2, q3, q4, q5⟩ := HSC.out W hW; go_simp; try with_reducible rfl)) ?_; simp only [Act.put, List.setIfInBounds_toArray, List.set_cons_zero, List.set_cons_succ]) | (refine plan_off (by rfl) ?_; simp only [Act.put, List.setIfInBounds_toArray, List.set_cons_zero, List.set_cons_succ]))
      refine plan_turn ?_
      refine wpList_store_blk w8.drew rfl STA _ _ rfl 0 #[.slice (some ⟨g, o, none⟩) n c, .int .i64 J, .bool false] rfl rfl HX8.out.2.1.drew (by show 0 + 3 ≤ 3; omega) (by kernel_rfl) (by simp [Value.oneCell']) ?_
      intro Wa hba hka hza
      have HBA : Hid (Blk Wa (w.heap.size + 1) STA #[.slice (some ⟨g, o, none⟩) n c, .int .i64 J, .bool false]) := Lib.hid hba
      have HKA : Hid (Kept (fun i => i = w.heap.size + 1 ∨ i = w.heap.size + 2) w8 Wa) := Lib.hid (HS0.out.trans' hka (fun i _ hi => Or.inl hi))
      have HBN : Hid (Blk Wa (w.heap.size + 2) NOA #[.int .i64 0, .slice none 0 0, .string ⟨#[]⟩]) := Lib.hid (HX8.out.2.2.1.drew.kept hka (by omega))
      clear hba hka hza
      go_wp2_with fail
      refine ⟨HKA.out, ?_⟩
      refine plan_turn ?_
      refine wpList_store_blk Wa rfl NOA _ _ rfl 0 #[.int .i64 v.k, .slice v.A v.m v.c, .string v.s] rfl rfl HBN.out (by show 0 + 3 ≤ 3; omega) (by kernel_rfl) (by simp [Value.oneCell']) ?_
      intro Wb hbb hkb hzb
      have HBB : Hid (Blk Wb (w.heap.size + 2) NOA #[.int .i64 v.k, .slice v.A v.m v.c, .string v.s]) := Lib.hid hbb
      have HBA2 : Hid (Blk Wb (w.heap.size + 1) STA #[.slice (some ⟨g, o, none⟩) n c, .int .i64 J, .bool false]) := Lib.hid (HBA.out.kept hkb (by omega))
      have HKB : Hid (Kept (fun i => i = w.heap.size + 1 ∨ i = w.heap.size + 2) w8 Wb) := Lib.hid (HKA.out.trans' hkb (fun i _ hi => Or.inr hi))
      clear hbb hkb hzb
      go_wp2_with fail
      refine ⟨HKB.out, ?_⟩
      refine plan_done ?_
      go_wp2_with fail
      refine bodyPost_ret (results_cc (rb := w.heap.size + 1) (rc := w.heap.size + 2) rfl rfl rfl (load_st HBA2.out) (load_no HBB.out)) rfl ?_
      exact HFIN.out w8 Wb false J HX8.out.2.2.2.2.1 HX8.out.1 HKB.out (Nat.le_refl _) hJn [] (fun h => by cases h) (.openBad HHX.out.1 HHX.out.2 (by rw [tail_drop]; exact HDI.out.par) (Or.inl rfl))
    · have HE8 : Hid (Env w8 (some ⟨g, o, none⟩) n c all) := Lib.hid (HENV.out.below HX8.out.1)
      obtain ⟨t8, g8, o8, ht8, hhd8, hsz8, hne8, eg8, hg8, e8, _⟩ := HE8.out.at hJn
      injection eg8 with eg8
      injection eg8 with eg8 eo8
      subst eg8 eo8
      obtain ⟨y, hy⟩ : ∃ y, t8.1 = y := ⟨_, rfl⟩
      rw [hy] at hhd8 hsz8 hne8 e8
      have HHD8 := Lib.hid hhd8
      have HNE8 := Lib.hid hne8
      clear hy ht8 hhd8 hne8
      by_cases hyc : y = closeW
      · have q3 : (y.toList == [41]) = true := lit_yes hyc
        have hJ2 : J + 1 < n := HNE8.out (by rw [hyc]; decide)
        have HHY := Lib.hid (HHD8.out.trans hyc)
        have hJw : IntKind.i64.wrap ((J : Int) + 1) = (J : Int) + 1 := by rw [IntKind.wrap_i64]; omega
        clear hyc
        obtain ⟨wz, hwz⟩ : ∃ wz, w8.setCell ⟨w5.heap.size, 1, none⟩ (.int .i64 ((J : Int) + 1)) = wz := ⟨_, rfl⟩
        have HXZ : Hid (Blk wz w5.heap.size STA #[.slice (some ⟨g, o, none⟩) n c, .int .i64 ((J : Int) + 1), .bool true] ∧ Blk wz (w5.heap.size + 1) NOA #[.int .i64 v.k, .slice v.A v.m v.c, .string v.s] ∧ Blk wz (w.heap.size + 1) STA #[.slice none 0 0, .int .i64 0, .bool false] ∧ Blk wz (w.heap.size + 2) NOA #[.int .i64 0, .slice none 0 0, .string ⟨#[]⟩] ∧ Below w5.heap.size w5 wz ∧ Below w.heap.size w wz ∧ wz.heap.size = w8.heap.size) := Lib.hid (by
          have h7 := HX8.out.2.2.2.2.2.2
          have e : #[Value.slice (some ⟨g, o, none⟩) n c, .int .i64 J, .bool true].setIfInBounds 1 (.int .i64 ((J : Int) + 1)) = #[.slice (some ⟨g, o, none⟩) n c, .int .i64 ((J : Int) + 1), .bool true] := by simp
          rw [← hwz]
          refine ⟨by rw [← e]; exact HBX.out.st.set_ 1 _, HBX.out.no.far1 (by omega) _ _, HX8.out.2.1.far1 (by omega) _ _, HX8.out.2.2.1.far1 (by omega) _ _, HX8.out.2.2.2.2.1.setCell (Nat.le_refl _) _, HX8.out.1.setCell (by show w.heap.size ≤ w5.heap.size; omega) _, by simp [World.setCell]⟩)
        go_upto_region 15 with fail
        clear hwz b0 b1 b2 gb1 gb2 e8
        have HSC : Hid (∀ W, Kept (fun i => i = w.heap.size + 1 ∨ i = w.heap.size + 2) wz W → W.cell? ⟨w5.heap.size, 0, none⟩ = some (.slice (some ⟨g, o, none⟩) n c) ∧ W.cell? ⟨w5.heap.size, 1, none⟩ = some (.int .i64 ((J : Int) + 1)) ∧ W.cell? ⟨w5.heap.size, 2, none⟩ = some (.bool true) ∧ W.cell? ⟨w5.heap.size + 1, 0, none⟩ = some (.int .i64 v.k) ∧ W.cell? ⟨w5.heap.size + 1, 1, none⟩ = some (.slice v.A v.m v.c) ∧ W.cell? ⟨w5.heap.size + 1, 2, none⟩ = some (.string v.s)) := Lib.hid (fun W hW => by
          have k1 := HXZ.out.1.kept hW (fun h => by have := HX8.out.2.2.2.2.2.2; omega)
          have k2 := HXZ.out.2.1.kept hW (fun h => by have := HX8.out.2.2.2.2.2.2; omega)
          exact ⟨k1.cell 0, k1.cell 1, k1.cell 2, k2.cell 0, k2.cell 1, k2.cell 2⟩)
        have HS0 : Hid (Kept (fun i => i = w.heap.size + 1 ∨ i = w.heap.size + 2) wz wz.drew) := Lib.hid (Kept.refl _ _).drew
        refine wp_plan (fun V' => Kept (fun i => i = w.heap.size + 1 ∨ i = w.heap.size + 2) wz V') [(0, false), (1, false), (2, true), (3, true)] (by kernel_rfl) (by kernel_rfl) HS0.out ?_
        simp only [planL, List.getElem?_cons_zero, List.getElem?_cons_succ]
        repeat (first | (refine plan_on _ (by rfl) (fun W hW => by (obtain ⟨q0, q1, q2, q3, q4, q5⟩ := HSC.out W hW; go_simp; try with_reducible rfl)) ?_; simp only [Act.put, List.setIfInBounds_toArray, List.set_cons_zero, List.set_cons_succ]) | (refine plan_off (by rfl) ?_; simp only [Act.put, List.setIfInBounds_toArray, List.set_cons_zero, List.set_cons_succ]))
        refine plan_turn ?_
        refine wpList_store_blk wz.drew rfl STA _ _ rfl 0 #[.slice (some ⟨g, o, none⟩) n c, .int .i64 ((J : Int) + 1), .bool true] rfl rfl HXZ.out.2.2.1.drew (by show 0 + 3 ≤ 3; omega) (by kernel_rfl) (by simp [Value.oneCell']) ?_
        intro Wa hba hka hza
        have HBA : Hid (Blk Wa (w.heap.size + 1) STA #[.slice (some ⟨g, o, none⟩) n c, .int .i64 ((J : Int) + 1), .bool true]) := Lib.hid hba
        have HKA : Hid (Kept (fun i => i = w.heap.size + 1 ∨ i = w.heap.size + 2) wz Wa) := Lib.hid (HS0.out.trans' hka (fun i _ hi => Or.inl hi))
        have HBN : Hid (Blk Wa (w.heap.size + 2) NOA #[.int .i64 0, .slice none 0 0, .string ⟨#[]⟩]) := Lib.hid (HXZ.out.2.2.2.1.drew.kept hka (by omega))
        clear hba hka hza
        go_wp2_with fail
        refine ⟨HKA.out, ?_⟩
        refine plan_turn ?_
        refine wpList_store_blk Wa rfl NOA _ _ rfl 0 #[.int .i64 v.k, .slice v.A v.m v.c, .string v.s] rfl rfl HBN.out (by show 0 + 3 ≤ 3; omega) (by kernel_rfl) (by simp [Value.oneCell']) ?_
        intro Wb hbb hkb hzb
        have HBB : Hid (Blk Wb (w.heap.size + 2) NOA #[.int .i64 v.k, .slice v.A v.m v.c, .string v.s]) := Lib.hid hbb
        have HBA2 : Hid (Blk Wb (w.heap.size + 1) STA #[.slice (some ⟨g, o, none⟩) n c, .int .i64 ((J : Int) + 1), .bool true]) := Lib.hid (HBA.out.kept hkb (by omega))
        have HKB : Hid (Kept (fun i => i = w.heap.size + 1 ∨ i = w.heap.size + 2) wz Wb) := Lib.hid (HKA.out.trans' hkb (fun i _ hi => Or.inr hi))
        clear hbb hkb hzb
        go_wp2_with fail
        refine ⟨HKB.out, ?_⟩
        refine plan_done ?_
        go_wp2_with fail
        refine bodyPost_ret (results_cc (rb := w.heap.size + 1) (rc := w.heap.size + 2) rfl rfl rfl (load_st (J := J + 1) HBA2.out) (load_no HBB.out)) rfl ?_
        have := HFIN.out wz Wb true (J + 1) HXZ.out.2.2.2.2.1 HXZ.out.2.2.2.2.2.1 HKB.out (Nat.le_succ _) hJ2 [nodeOf 0 ns] (fun _ => ⟨rfl, by first | trivial | rfl⟩) (by rw [← tail_drop (J := J)]; exact .open_ HHX.out.1 HHX.out.2 (by rw [tail_drop]; exact HDI.out.par) HHY.out)
        exact this
      · have q3 : (y.toList == [41]) = false := lit_no hyc
        have HHY : Hid (hd (tx (all.drop J)) ≠ closeW) := Lib.hid (fun e => hyc (HHD8.out.symm.trans e))
        clear hyc
        obtain ⟨wz, hwz⟩ : ∃ wz, w8.setCell ⟨w5.heap.size, 2, none⟩ (.bool false) = wz := ⟨_, rfl⟩
        have HXZ : Hid (Blk wz w5.heap.size STA #[.slice (some ⟨g, o, none⟩) n c, .int .i64 J, .bool false] ∧ Blk wz (w5.heap.size + 1) NOA #[.int .i64 v.k, .slice v.A v.m v.c, .string v.s] ∧ Blk wz (w.heap.size + 1) STA #[.slice none 0 0, .int .i64 0, .bool false] ∧ Blk wz (w.heap.size + 2) NOA #[.int .i64 0, .slice none 0 0, .string ⟨#[]⟩] ∧ Below w5.heap.size w5 wz ∧ Below w.heap.size w wz ∧ wz.heap.size = w8.heap.size) := Lib.hid (by
          have h7 := HX8.out.2.2.2.2.2.2
          have e : #[Value.slice (some ⟨g, o, none⟩) n c, .int .i64 J, .bool true].setIfInBounds 2 (.bool false) = #[.slice (some ⟨g, o, none⟩) n c, .int .i64 J, .bool false] := by simp
          rw [← hwz]
          refine ⟨by rw [← e]; exact HBX.out.st.set_ 2 _, HBX.out.no.far1 (by omega) _ _, HX8.out.2.1.far1 (by omega) _ _, HX8.out.2.2.1.far1 (by omega) _ _, HX8.out.2.2.2.2.1.setCell (Nat.le_refl _) _, HX8.out.1.setCell (by show w.heap.size ≤ w5.heap.size; omega) _, by simp [World.setCell]⟩)
        go_upto_region 13 with fail
        clear hwz b0 b1 b2 gb1 gb2 e8
        have HSC : Hid (∀ W, Kept (fun i => i = w.heap.size + 1 ∨ i = w.heap.size + 2) wz W → W.cell? ⟨w5.heap.size, 0, none⟩ = some (.slice (some ⟨g, o, none⟩) n c) ∧ W.cell? ⟨w5.heap.size, 1, none⟩ = some (.int .i64 J) ∧ W.cell? ⟨w5.heap.size, 2, none⟩ = some (.bool false) ∧ W.cell? ⟨w5.heap.size + 1, 0, none⟩ = some (.int .i64 v.k) ∧ W.cell? ⟨w5.heap.size + 1, 1, none⟩ = some (.slice v.A v.m v.c) ∧ W.cell? ⟨w5.heap.size + 1, 2, none⟩ = some (.string v.s)) := Lib.hid (fun W hW => by
          have k1 := HXZ.out.1.kept hW (fun h => by have := HX8.out.2.2.2.2.2.2; omega)
          have k2 := HXZ.out.2.1.kept hW (fun h => by have := HX8.out.2.2.2.2.2.2; omega)
          exact ⟨k1.cell 0, k1.cell 1, k1.cell 2, k2.cell 0, k2.cell 1, k2.cell 2⟩)
        have HS0 : Hid (Kept (fun i => i = w.heap.size + 1 ∨ i = w.heap.size + 2) wz wz.drew) := Lib.hid (Kept.refl _ _).drew
        refine wp_plan (fun V' => Kept (fun i => i = w.heap.size + 1 ∨ i = w.heap.size + 2) wz V') [(0, false), (1, false), (2, true), (3, true)] (by kernel_rfl) (by kernel_rfl) HS0.out ?_
        simp only [planL, List.getElem?_cons_zero, List.getElem?_cons_succ]
        repeat (first | (refine plan_on _ (by rfl) (fun W hW => by (obtain ⟨q0, q1, q2, q3, q4, q5⟩ := HSC.out W hW; go_simp; try with_reducible rfl)) ?_; simp only [Act.put, List.setIfInBounds_toArray, List.set_cons_zero, List.set_cons_succ]) | (refine plan_off (by rfl) ?_; simp only [Act.put, List.setIfInBounds_toArray, List.set_cons_zero, List.set_cons_succ]))
        refine plan_turn ?_
        refine wpList_store_blk wz.drew rfl STA _ _ rfl 0 #[.slice (some ⟨g, o, none⟩) n c, .int .i64 J, .bool false] rfl rfl HXZ.out.2.2.1.drew (by show 0 + 3 ≤ 3; omega) (by kernel_rfl) (by simp [Value.oneCell']) ?_
        intro Wa hba hka hza
        have HBA : Hid (Blk Wa (w.heap.size + 1) STA #[.slice (some ⟨g, o, none⟩) n c, .int .i64 J, .bool false]) := Lib.hid hba
        have HKA : Hid (Kept (fun i => i = w.heap.size + 1 ∨ i = w.heap.size + 2) wz Wa) := Lib.hid (HS0.out.trans' hka (fun i _ hi => Or.inl hi))
        have HBN : Hid (Blk Wa (w.heap.size + 2) NOA #[.int .i64 0, .slice none 0 0, .string ⟨#[]⟩]) := Lib.hid (HXZ.out.2.2.2.1.drew.kept hka (by omega))
        clear hba hka hza
        go_wp2_with fail
        refine ⟨HKA.out, ?_⟩
        refine plan_turn ?_
        refine wpList_store_blk Wa rfl NOA _ _ rfl 0 #[.int .i64 v.k, .slice v.A v.m v.c, .string v.s] rfl rfl HBN.out (by show 0 + 3 ≤ 3; omega) (by kernel_rfl) (by simp [Value.oneCell']) ?_
        intro Wb hbb hkb hzb
        have HBB : Hid (Blk Wb (w.heap.size + 2) NOA #[.int .i64 v.k, .slice v.A v.m v.c, .string v.s]) := Lib.hid hbb
        have HBA2 : Hid (Blk Wb (w.heap.size + 1) STA #[.slice (some ⟨g, o, none⟩) n c, .int .i64 J, .bool false]) := Lib.hid (HBA.out.kept hkb (by omega))
        have HKB : Hid (Kept (fun i => i = w.heap.size + 1 ∨ i = w.heap.size + 2) wz Wb) := Lib.hid (HKA.out.trans' hkb (fun i _ hi => Or.inr hi))
        clear hbb hkb hzb
        go_wp2_with fail
        refine ⟨HKB.out, ?_⟩
        refine plan_done ?_
        go_wp2_with fail
        refine bodyPost_ret (results_cc (rb := w.heap.size + 1) (rc := w.heap.size + 2) rfl rfl rfl (load_st HBA2.out) (load_no HBB.out)) rfl ?_
        exact HFIN.out wz Wb false J HXZ.out.2.2.2.2.1 HXZ.out.2.2.2.2.2.1 HKB.out (Nat.le_refl _) hJn [] (fun h => by cases h) (.openBad HHX.out.1 HHX.out.2 (by rw [tail_drop]; exact HDI.out.par) (Or.inr HHY.out))
  have HA := Lib.hid (atom_any x w3 (by omega))
  have r2 : (((x.toList == [40]) = true ∧ ¬ (d : Int) < 40) ∨ (x.toList == [40]) = false) := by
    by_cases h : x = openW
    · exact Or.inl ⟨lit_yes h, fun h2 => hxo ⟨h, by omega⟩⟩
    · exact Or.inr (lit_no h)
  have HXO : Hid (¬ (hd (tx (all.drop I)) = openW ∧ d < 40)) := Lib.hid (fun h => hxo ⟨HHD.out.symm.trans h.1, h.2⟩)
  have HXN : Hid (hd (tx (all.drop I)) ≠ notW) := Lib.hid (fun h => hxn (HHD.out.symm.trans h))
  clear hxo hxn
  rcases r2 with ⟨r2, r3⟩ | r2
  all_goals
    go_wp2_with fail
    refine HA.out.mono ?_
    rintro e wq ⟨b, rfl, hat, hbq⟩
    have HAT := Lib.hid hat
    have HBQ := Lib.hid hbq
    clear hat hbq HA hw1 hw2 hw3 c20 c21 c22 f20 f21 f22 e0 e0'
    have HQ : Hid (Blk wq w.heap.size STA #[.slice (some ⟨g, o, none⟩) n c, .int .i64 I, .bool true] ∧ Blk wq (w.heap.size + 1) STA #[.slice none 0 0, .int .i64 0, .bool false] ∧ Blk wq (w.heap.size + 2) NOA #[.int .i64 0, .slice none 0 0, .string ⟨#[]⟩] ∧ Below w.heap.size w wq) := Lib.hid ⟨HB2.out.under HBQ.out, HB4.out.under HBQ.out, HB5.out.under HBQ.out, HK.out.trans (HBQ.out.mono HK.out.size)⟩
    obtain ⟨c20, c21, c22, f20, f21, f22⟩ := HQ.out.1.at3
    cases b
    · obtain ⟨w4, hw4⟩ : ∃ w4, wq.setCell ⟨w.heap.size, 2, none⟩ (.bool false) = w4 := ⟨_, rfl⟩
      have HK4 : Hid (Below w.heap.size w w4) := Lib.hid (by rw [← hw4]; exact HQ.out.2.2.2.setCell (Nat.le_refl _) _)
      have HB4' : Hid (Blk w4 (w.heap.size + 1) STA #[.slice none 0 0, .int .i64 0, .bool false] ∧ Blk w4 (w.heap.size + 2) NOA #[.int .i64 0, .slice none 0 0, .string ⟨#[]⟩]) := Lib.hid (by
        rw [← hw4]
        exact ⟨HQ.out.2.1.far1 (by omega) _ _, HQ.out.2.2.1.far1 (by omega) _ _⟩)
      have B24 : Blk w4 w.heap.size STA #[.slice (some ⟨g, o, none⟩) n c, .int .i64 I, .bool false] := by
        have e : #[Value.slice (some ⟨g, o, none⟩) n c, .int .i64 I, .bool true].setIfInBounds 2 (.bool false) = #[.slice (some ⟨g, o, none⟩) n c, .int .i64 I, .bool false] := by simp
        rw [← e, ← hw4]
        exact HQ.out.1.set_ 2 _
      obtain ⟨d20, d21, d22, g20, g21, g22⟩ := B24.at3
      clear B24
      obtain ⟨w9, hw9⟩ : ∃ w9, (((((w4.setCell ⟨w.heap.size + 1, 0, none⟩ (.slice (some ⟨g, o, none⟩) n c)).setCell ⟨w.heap.size + 1, 1, none⟩ (.int .i64 I)).setCell ⟨w.heap.size + 1, 2, none⟩ (.bool false)).setCell ⟨w.heap.size + 1 + 1, 0, none⟩ (.int .i64 0)).setCell ⟨w.heap.size + 1 + 1, 1, none⟩ (.slice none 0 0)).setCell ⟨w.heap.size + 1 + 1, 2, none⟩ (.string ⟨#[]⟩) = w9 := ⟨_, rfl⟩
      have HS9 := Lib.hid (store6 HB4'.out.1 HB4'.out.2 (by omega) hw9)
      have HK9 : Hid (Below w.heap.size w w9) := Lib.hid (HK4.out.trans (HS9.out.2.2.toBelow (B := w.heap.size) (fun i hi => by omega) HK4.out.size))
      obtain ⟨l0, l1, l2, k0, k1, k2⟩ := HB4'.out.1.at3
      obtain ⟨l3, l4, l5, k3, k4, k5⟩ := HB4'.out.2.at3
      go_wp2_with fail
      refine bodyPost_ret (results_cc (rb := w.heap.size + 1) (rc := w.heap.size + 1 + 1) rfl rfl rfl (load_st HS9.out.1) (load_no (k := 0) HS9.out.2.1)) rfl ?_
      refine ⟨⟨0, none, 0, 0, ⟨#[]⟩⟩, false, I, [], rfl, ⟨.bad HXN.out HXO.out (fun a ha => ?_), Nat.le_refl _, by rw [HLEN.out]; exact hI, DOk.zero _ _ _ (by omega), fun h => (by cases h), HK9.out⟩⟩
      rw [HHD.out] at ha
      have := HAT.out.2 ⟨a, ha⟩
      cases this
    · have hxe : x ≠ ⟨#[]⟩ := fun h => by
        obtain ⟨a, ha⟩ := HAT.out.1 rfl
        exact leaf_no (w := x) (by right; right; right; right; right; exact h) a ha
      have hI2 : I + 1 < n := hne hxe
      have hIw : IntKind.i64.wrap ((I : Int) + 1) = (I : Int) + 1 := by rw [IntKind.wrap_i64]; omega
      clear hxe
      obtain ⟨w4, hw4⟩ : ∃ w4, wq.setCell ⟨w.heap.size, 1, none⟩ (.int .i64 ((I : Int) + 1)) = w4 := ⟨_, rfl⟩
      have HK4 : Hid (Below w.heap.size w w4) := Lib.hid (by rw [← hw4]; exact HQ.out.2.2.2.setCell (Nat.le_refl _) _)
      have HB4' : Hid (Blk w4 (w.heap.size + 1) STA #[.slice none 0 0, .int .i64 0, .bool false] ∧ Blk w4 (w.heap.size + 2) NOA #[.int .i64 0, .slice none 0 0, .string ⟨#[]⟩]) := Lib.hid (by
        rw [← hw4]
        exact ⟨HQ.out.2.1.far1 (by omega) _ _, HQ.out.2.2.1.far1 (by omega) _ _⟩)
      have B24 : Blk w4 w.heap.size STA #[.slice (some ⟨g, o, none⟩) n c, .int .i64 ((I : Int) + 1), .bool true] := by
        have e : #[Value.slice (some ⟨g, o, none⟩) n c, .int .i64 I, .bool true].setIfInBounds 1 (.int .i64 ((I : Int) + 1)) = #[.slice (some ⟨g, o, none⟩) n c, .int .i64 ((I : Int) + 1), .bool true] := by simp
        rw [← e, ← hw4]
        exact HQ.out.1.set_ 1 _
      obtain ⟨d20, d21, d22, g20, g21, g22⟩ := B24.at3
      clear B24
      obtain ⟨w9, hw9⟩ : ∃ w9, (((((w4.setCell ⟨w.heap.size + 1, 0, none⟩ (.slice (some ⟨g, o, none⟩) n c)).setCell ⟨w.heap.size + 1, 1, none⟩ (.int .i64 ((I : Int) + 1))).setCell ⟨w.heap.size + 1, 2, none⟩ (.bool true)).setCell ⟨w.heap.size + 1 + 1, 0, none⟩ (.int .i64 4)).setCell ⟨w.heap.size + 1 + 1, 1, none⟩ (.slice none 0 0)).setCell ⟨w.heap.size + 1 + 1, 2, none⟩ (.string x) = w9 := ⟨_, rfl⟩
      have HS9 := Lib.hid (store6 HB4'.out.1 HB4'.out.2 (by omega) hw9)
      have HK9 : Hid (Below w.heap.size w w9) := Lib.hid (HK4.out.trans (HS9.out.2.2.toBelow (B := w.heap.size) (fun i hi => by omega) HK4.out.size))
      obtain ⟨l0, l1, l2, k0, k1, k2⟩ := HB4'.out.1.at3
      obtain ⟨l3, l4, l5, k3, k4, k5⟩ := HB4'.out.2.at3
      go_wp2_with fail
      refine bodyPost_ret (results_cc (rb := w.heap.size + 1) (rc := w.heap.size + 1 + 1) rfl rfl rfl (load_st (J := I + 1) HS9.out.1) (load_no (k := 4) HS9.out.2.1)) rfl ?_
      obtain ⟨a, ha⟩ := HAT.out.1 rfl
      refine ⟨⟨4, none, 0, 0, x⟩, true, I + 1, [.atom a], rfl, ⟨?_, Nat.le_succ _, by rw [HLEN.out]; exact hI2, dok_atom _ _ _ _ (by omega), fun _ => ?_, HK9.out⟩⟩
      · rw [drop_tail]
        exact .leaf (by rw [HHD.out]; exact ha)
      · rw [ha.2]
        exact .atom a
end Go.Proofs.YtpgbgeofhcpocaaGreatDoor

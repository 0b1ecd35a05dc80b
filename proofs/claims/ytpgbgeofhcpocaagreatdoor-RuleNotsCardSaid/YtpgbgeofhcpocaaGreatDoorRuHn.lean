/- Of what a rule holds: nodes, rows, rules. -/
import Derived.Test.YtpgbgeofhcpocaaGreatDoorRuHo
namespace Go.Proofs.YtpgbgeofhcpocaaGreatDoor
open Go.RowKit Go.Maps Go.Shelf
set_option linter.unusedVariables false

/-- A node's method, called. -/
def InvAt (z : Fz) (b : Bool) (v : Value) (w : World) : Prop := ∃ x, (v = .iface 73 x ∧ Calls Tryz.prog 98 #[x, .agg (fzA z)] w (ROf b w)) ∨ (v = .iface 75 x ∧ Calls Tryz.prog 102 #[x, .agg (fzA z)] w (ROf b w)) ∨ (v = .iface 77 x ∧ Calls Tryz.prog 104 #[x, .agg (fzA z)] w (ROf b w)) ∨ (v = .iface 79 x ∧ Calls Tryz.prog 105 #[x, .agg (fzA z)] w (ROf b w)) ∨ (v = .iface 81 x ∧ Calls Tryz.prog 123 #[x, .agg (fzA z)] w (ROf b w)) ∨ (v = .iface 84 x ∧ Calls Tryz.prog 124 #[x, .agg (fzA z)] w (ROf b w))
theorem someN_any (f : Fx) : ∀ l : List Nd, someN f l = (l.map (holdsN f)).any id
  | [] => rfl
  | n :: l => by rw [someN, List.map_cons, List.any_cons, someN_any f l]; rfl
theorem someNot_any (f : Fx) : ∀ l : List Nd, someNot f l = (l.map (fun n => !holdsN f n)).any id
  | [] => rfl
  | n :: l => by rw [someNot, List.map_cons, List.any_cons, someNot_any f l]; rfl
theorem fz_all {w : World} {p : Nat} {z : Fz} (h : Blk w p FAC (fzA z)) : w.cell? ⟨p, 0, none⟩ = some (.string z.name) ∧ w.cell? ⟨p, 1, none⟩ = some (.string z.maker) ∧ w.cell? ⟨p, 2, none⟩ = some (.string z.tags) ∧ w.cell? ⟨p, 3, none⟩ = some (.int .i64 z.stock) ∧ w.cell? ⟨p, 4, none⟩ = some (.int .i64 z.price) ∧ w.cell? ⟨p, 5, none⟩ = some (.int .i64 z.born) ∧ w.cell? ⟨p, 6, none⟩ = some (.bool z.listed) ∧ w.cell? ⟨p, 7, none⟩ = some (.int .i64 z.now) ∧ w.cell? ⟨p, 8, none⟩ = some (.int .i64 z.age) ∧ w.cell? ⟨p, 9, none⟩ = some (.int .i64 z.fans) ∧ w.cell? ⟨p, 10, none⟩ = some (.bool z.follows) ∧ w.cell? ⟨p, 11, none⟩ = some (.bool z.done) :=
  ⟨h.cell 0, h.cell 1, h.cell 2, h.cell 3, h.cell 4, h.cell 5, h.cell 6, h.cell 7, h.cell 8, h.cell 9, h.cell 10, h.cell 11⟩

set_option maxHeartbeats 4000000 in
set_option maxRecDepth 100000 in
theorem clo_either (z : Fz) (b : Bool) (v : Value) (p : Nat) (w : World) (h : InvAt z b v w) (hb : Blk w p FAC (fzA z)) : Calls Tryz.prog 100 #[v, .pointer (some ⟨p, 0, none⟩)] w (ROf b w) := by
  obtain ⟨c0, c1, c2, c3, c4, c5, c6, c7, c8, c9, c10, c11⟩ := fz_all hb
  clear hb
  obtain ⟨x, ⟨rfl, hc⟩ | ⟨rfl, hc⟩ | ⟨rfl, hc⟩ | ⟨rfl, hc⟩ | ⟨rfl, hc⟩ | ⟨rfl, hc⟩⟩ := h
  all_goals
    have HC := Lib.hid hc
    clear hc
    unfold fzA at HC
    go_enter Tryz.func100, Tryz.ntmps100
    go_wp2_with fail
    refine HC.out.mono ?_
    rintro e w1 ⟨rfl, hb⟩
    clear HC c0 c1 c2 c3 c4 c5 c6 c7 c8 c9 c10 c11
    go_wp2_with fail
    go_ret
    exact ⟨rfl, hb⟩
set_option maxHeartbeats 4000000 in
set_option maxRecDepth 100000 in
theorem idx_either (z : Fz) (bs : List Bool) (B : Nat) (A : Option Addr) (m c : Nat) (xs : List Value) (p : Nat) (w : World) (hr : RowV w B A m c xs) (hbl : bs.length = m) (hm : m ≤ 1000000) (hp : Blk w p FAC (fzA z)) (h : ∀ (i : Nat) v b, xs[i]? = some v → bs[i]? = some b → ∀ W, Below w.heap.size w W → Calls Tryz.prog 100 #[v, .pointer (some ⟨p, 0, none⟩)] W (ROf b W)) : Calls Tryz.prog 101 #[.slice A m c, .func (.func 100) #[] #[.pointer (some ⟨p, 0, none⟩)]] w fun e w' => ∃ r : Int, e = .returned (.int .i64 r) ∧ decide (0 ≤ r) = bs.any id ∧ Below w.heap.size w w' := by
  have HR := Lib.hid hr
  have HBL := Lib.hid hbl
  have H := Lib.hid h
  clear hr hbl hp h
  go_enter Tryz.func101, Tryz.ntmps101
  go_wp2_with fail
  go_loopw [8] (fun i wr => ∃ k : Nat, k ≤ m ∧ i = .int .i64 k ∧ Hid (∀ (j : Nat) b, j < k → bs[j]? = some b → b = false) ∧ Hid (Below w.heap.size w wr)) (fun i _ => m - (intOf i).toNat)
  case atStart => exact ⟨0, Nat.zero_le _, rfl, Lib.hid (fun j b hj => by omega), Lib.hid (Below.refl _ _)⟩
  case round =>
    obtain ⟨k, hk, rfl, hno, hbw⟩ := hrel
    by_cases hlt : k < m
    · have hk8 : (k : Int) < (m : Int) := by omega
      have hk9 : (0 : Int) ≤ (k : Int) := by omega
      obtain ⟨v, hv⟩ : ∃ v, xs[k]? = some v := ⟨_, List.getElem?_eq_getElem (by rw [HR.out.len]; exact hlt)⟩
      obtain ⟨b, hb⟩ : ∃ b, bs[k]? = some b := ⟨_, List.getElem?_eq_getElem (by rw [HBL.out]; exact hlt)⟩
      have hrr : RowV wr B A m c xs := HR.out.keep hbw.out.size (fun i hi _ => hbw.out.block i hi)
      obtain ⟨g, o, hA, hg, hc⟩ := hrr.row.at (by omega)
      have e0 : wr.cell? ⟨g, o + k, none⟩ = some v := hc k _ hv
      subst hA
      have HC := Lib.hid (H.out k v b hv hb wr hbw.out)
      have HB := Lib.hid hb
      clear hrr hg hc hv hb
      cases b
      · have HNX : Hid (∀ (j : Nat) b, j < k + 1 → bs[j]? = some b → b = false) := Lib.hid (fun j b hj hb => by
          by_cases e : j = k
          · subst e; rw [HB.out] at hb; injection hb with hb; exact hb.symm
          · exact hno.out j b (by omega) hb)
        go_wp2_with fail
        refine HC.out.mono ?_
        rintro e w1 ⟨rfl, hb1⟩
        have HB1 : Hid (Below w.heap.size w w1) := Lib.hid (hbw.out.trans (hb1.mono hbw.out.size))
        clear hb1
        go_wp2_with fail
        go_roundw
        case rel => exact ⟨k + 1, by omega, by go_num, HNX, HB1⟩
        case measure => simp [intOf]; omega
      · have HY : Hid (bs.any id = true) := Lib.hid (List.any_eq_true.2 ⟨true, List.mem_of_getElem? HB.out, rfl⟩)
        go_wp2_with fail
        refine HC.out.mono ?_
        rintro e w1 ⟨rfl, hb1⟩
        have HB1 : Hid (Below w.heap.size w w1) := Lib.hid (hbw.out.trans (hb1.mono hbw.out.size))
        clear hb1
        go_wp2_with fail
        go_ret
        exact ⟨(k : Int), rfl, by rw [HY.out]; exact decide_eq_true hk9, HB1.out⟩
    · have HF : Hid (bs.any id = false) := Lib.hid (by
        rw [List.any_eq_false]
        intro b hb
        obtain ⟨j, hj⟩ := List.mem_iff_getElem?.1 hb
        have h1 := (List.getElem?_eq_some_iff.1 hj).1
        rw [HBL.out] at h1
        have := hno.out j b (by omega) hj
        subst this
        simp)
      go_wp2_with fail
      go_ret
      exact ⟨-1, rfl, by rw [HF.out]; rfl, hbw.out⟩
set_option maxHeartbeats 4000000 in
set_option maxRecDepth 100000 in
theorem con_either (z : Fz) (bs : List Bool) (B : Nat) (A : Option Addr) (m c : Nat) (xs : List Value) (p : Nat) (w : World) (hr : RowV w B A m c xs) (hbl : bs.length = m) (hm : m ≤ 1000000) (hp : Blk w p FAC (fzA z)) (h : ∀ (i : Nat) v b, xs[i]? = some v → bs[i]? = some b → ∀ W, Below w.heap.size w W → Calls Tryz.prog 100 #[v, .pointer (some ⟨p, 0, none⟩)] W (ROf b W)) : Calls Tryz.prog 99 #[.slice A m c, .func (.func 100) #[] #[.pointer (some ⟨p, 0, none⟩)]] w (ROf (bs.any id) w) := by
  have HI := Lib.hid (idx_either z bs B A m c xs p w hr hbl hm hp h)
  obtain ⟨y, hy⟩ : ∃ y, bs.any id = y := ⟨_, rfl⟩
  rw [hy] at HI ⊢
  clear hr hbl hp h hy
  go_enter Tryz.func99, Tryz.ntmps99
  go_wp2_with fail
  refine HI.out.mono ?_
  rintro e w1 ⟨r, rfl, hd, hb⟩
  have HD := Lib.hid hd
  have HB := Lib.hid hb
  clear hd hb HI
  go_wp2_with fail
  go_ret
  exact ⟨ret_bool (by rw [← HD.out]), HB.out⟩

set_option maxHeartbeats 4000000 in
set_option maxRecDepth 100000 in
theorem clo_both (z : Fz) (b : Bool) (v : Value) (p : Nat) (w : World) (h : InvAt z b v w) (hb : Blk w p FAC (fzA z)) : Calls Tryz.prog 103 #[v, .pointer (some ⟨p, 0, none⟩)] w (ROf (!b) w) := by
  obtain ⟨c0, c1, c2, c3, c4, c5, c6, c7, c8, c9, c10, c11⟩ := fz_all hb
  clear hb
  obtain ⟨x, ⟨rfl, hc⟩ | ⟨rfl, hc⟩ | ⟨rfl, hc⟩ | ⟨rfl, hc⟩ | ⟨rfl, hc⟩ | ⟨rfl, hc⟩⟩ := h
  all_goals
    have HC := Lib.hid hc
    clear hc
    unfold fzA at HC
    go_enter Tryz.func103, Tryz.ntmps103
    go_wp2_with fail
    refine HC.out.mono ?_
    rintro e w1 ⟨rfl, hb⟩
    clear HC c0 c1 c2 c3 c4 c5 c6 c7 c8 c9 c10 c11
    go_wp2_with fail
    go_ret
    exact ⟨rfl, hb⟩
set_option maxHeartbeats 4000000 in
set_option maxRecDepth 100000 in
theorem idx_both (z : Fz) (bs : List Bool) (B : Nat) (A : Option Addr) (m c : Nat) (xs : List Value) (p : Nat) (w : World) (hr : RowV w B A m c xs) (hbl : bs.length = m) (hm : m ≤ 1000000) (hp : Blk w p FAC (fzA z)) (h : ∀ (i : Nat) v b, xs[i]? = some v → bs[i]? = some b → ∀ W, Below w.heap.size w W → Calls Tryz.prog 103 #[v, .pointer (some ⟨p, 0, none⟩)] W (ROf b W)) : Calls Tryz.prog 101 #[.slice A m c, .func (.func 103) #[] #[.pointer (some ⟨p, 0, none⟩)]] w fun e w' => ∃ r : Int, e = .returned (.int .i64 r) ∧ decide (0 ≤ r) = bs.any id ∧ Below w.heap.size w w' := by
  have HR := Lib.hid hr
  have HBL := Lib.hid hbl
  have H := Lib.hid h
  clear hr hbl hp h
  go_enter Tryz.func101, Tryz.ntmps101
  go_wp2_with fail
  go_loopw [8] (fun i wr => ∃ k : Nat, k ≤ m ∧ i = .int .i64 k ∧ Hid (∀ (j : Nat) b, j < k → bs[j]? = some b → b = false) ∧ Hid (Below w.heap.size w wr)) (fun i _ => m - (intOf i).toNat)
  case atStart => exact ⟨0, Nat.zero_le _, rfl, Lib.hid (fun j b hj => by omega), Lib.hid (Below.refl _ _)⟩
  case round =>
    obtain ⟨k, hk, rfl, hno, hbw⟩ := hrel
    by_cases hlt : k < m
    · have hk8 : (k : Int) < (m : Int) := by omega
      have hk9 : (0 : Int) ≤ (k : Int) := by omega
      obtain ⟨v, hv⟩ : ∃ v, xs[k]? = some v := ⟨_, List.getElem?_eq_getElem (by rw [HR.out.len]; exact hlt)⟩
      obtain ⟨b, hb⟩ : ∃ b, bs[k]? = some b := ⟨_, List.getElem?_eq_getElem (by rw [HBL.out]; exact hlt)⟩
      have hrr : RowV wr B A m c xs := HR.out.keep hbw.out.size (fun i hi _ => hbw.out.block i hi)
      obtain ⟨g, o, hA, hg, hc⟩ := hrr.row.at (by omega)
      have e0 : wr.cell? ⟨g, o + k, none⟩ = some v := hc k _ hv
      subst hA
      have HC := Lib.hid (H.out k v b hv hb wr hbw.out)
      have HB := Lib.hid hb
      clear hrr hg hc hv hb
      cases b
      · have HNX : Hid (∀ (j : Nat) b, j < k + 1 → bs[j]? = some b → b = false) := Lib.hid (fun j b hj hb => by
          by_cases e : j = k
          · subst e; rw [HB.out] at hb; injection hb with hb; exact hb.symm
          · exact hno.out j b (by omega) hb)
        go_wp2_with fail
        refine HC.out.mono ?_
        rintro e w1 ⟨rfl, hb1⟩
        have HB1 : Hid (Below w.heap.size w w1) := Lib.hid (hbw.out.trans (hb1.mono hbw.out.size))
        clear hb1
        go_wp2_with fail
        go_roundw
        case rel => exact ⟨k + 1, by omega, by go_num, HNX, HB1⟩
        case measure => simp [intOf]; omega
      · have HY : Hid (bs.any id = true) := Lib.hid (List.any_eq_true.2 ⟨true, List.mem_of_getElem? HB.out, rfl⟩)
        go_wp2_with fail
        refine HC.out.mono ?_
        rintro e w1 ⟨rfl, hb1⟩
        have HB1 : Hid (Below w.heap.size w w1) := Lib.hid (hbw.out.trans (hb1.mono hbw.out.size))
        clear hb1
        go_wp2_with fail
        go_ret
        exact ⟨(k : Int), rfl, by rw [HY.out]; exact decide_eq_true hk9, HB1.out⟩
    · have HF : Hid (bs.any id = false) := Lib.hid (by
        rw [List.any_eq_false]
        intro b hb
        obtain ⟨j, hj⟩ := List.mem_iff_getElem?.1 hb
        have h1 := (List.getElem?_eq_some_iff.1 hj).1
        rw [HBL.out] at h1
        have := hno.out j b (by omega) hj
        subst this
        simp)
      go_wp2_with fail
      go_ret
      exact ⟨-1, rfl, by rw [HF.out]; rfl, hbw.out⟩
set_option maxHeartbeats 4000000 in
set_option maxRecDepth 100000 in
theorem con_both (z : Fz) (bs : List Bool) (B : Nat) (A : Option Addr) (m c : Nat) (xs : List Value) (p : Nat) (w : World) (hr : RowV w B A m c xs) (hbl : bs.length = m) (hm : m ≤ 1000000) (hp : Blk w p FAC (fzA z)) (h : ∀ (i : Nat) v b, xs[i]? = some v → bs[i]? = some b → ∀ W, Below w.heap.size w W → Calls Tryz.prog 103 #[v, .pointer (some ⟨p, 0, none⟩)] W (ROf b W)) : Calls Tryz.prog 99 #[.slice A m c, .func (.func 103) #[] #[.pointer (some ⟨p, 0, none⟩)]] w (ROf (bs.any id) w) := by
  have HI := Lib.hid (idx_both z bs B A m c xs p w hr hbl hm hp h)
  obtain ⟨y, hy⟩ : ∃ y, bs.any id = y := ⟨_, rfl⟩
  rw [hy] at HI ⊢
  clear hr hbl hp h hy
  go_enter Tryz.func99, Tryz.ntmps99
  go_wp2_with fail
  refine HI.out.mono ?_
  rintro e w1 ⟨r, rfl, hd, hb⟩
  have HD := Lib.hid hd
  have HB := Lib.hid hb
  clear hd hb HI
  go_wp2_with fail
  go_ret
  exact ⟨ret_bool (by rw [← HD.out]), HB.out⟩

set_option maxHeartbeats 4000000 in
set_option maxRecDepth 100000 in
theorem row_either (z : Fz) (l : List Nd) (B : Nat) (A : Option Addr) (m c : Nat) (xs : List Value) (w : World) (hr : RowV w B A m c xs) (hlm : l.length = m) (hm : m ≤ 1000000) (h : ∀ (i : Nat) n v, l[i]? = some n → xs[i]? = some v → ∀ W, Below w.heap.size w W → InvAt z (holdsN (fzX z) n) v W) : Calls Tryz.prog 98 #[.agg #[.slice A m c], .agg (fzA z)] w (ROf (holdsN (fzX z) (.row 0 l)) w) := by
  have HH : Hid (holdsN (fzX z) (.row 0 l) = ((l.map (holdsN (fzX z))).any id)) := Lib.hid (by
    rw [holdsN]
    rw [if_pos rfl, someN_any])
  rw [HH.out]
  show Calls Tryz.prog 98 #[.agg #[.slice A m c], .agg #[.string z.name, .string z.maker, .string z.tags, .int .i64 z.stock, .int .i64 z.price, .int .i64 z.born, .bool z.listed, .int .i64 z.now, .int .i64 z.age, .int .i64 z.fans, .bool z.follows, .bool z.done]] w _
  obtain ⟨w1, hw1⟩ : ∃ w1, w.alloc (.cells #[.slice A m c] 73) = w1 := ⟨_, rfl⟩
  obtain ⟨w2, hw2⟩ : ∃ w2, w1.alloc (.cells #[.string z.name, .string z.maker, .string z.tags, .int .i64 z.stock, .int .i64 z.price, .int .i64 z.born, .bool z.listed, .int .i64 z.now, .int .i64 z.age, .int .i64 z.fans, .bool z.follows, .bool z.done] FAC) = w2 := ⟨_, rfl⟩
  have z1 : w1.heap.size = w.heap.size + 1 := by rw [← hw1]; simp
  have k1 : Below w.heap.size w w1 := by rw [← hw1]; exact (Below.refl _ _).alloc (Nat.le_refl _) _
  have k2 : Below w1.heap.size w1 w2 := by rw [← hw2]; exact (Below.refl _ _).alloc (Nat.le_refl _) _
  have HK : Hid (Below w.heap.size w w2 ∧ w2.heap.size = w.heap.size + 2) := Lib.hid ⟨k1.trans (k2.mono (by omega)), by rw [← hw2]; simp [z1]⟩
  have HBX : Hid (Blk w2 w.heap.size 73 #[.slice A m c]) := Lib.hid (by
    have : Blk w1 w.heap.size 73 #[.slice A m c] := by rw [← hw1]; exact Blk.new _ _ _
    exact this.under k2)
  have HBF : Hid (Blk w2 (w.heap.size + 1) FAC (fzA z)) := Lib.hid (by
    have : Blk w2 w1.heap.size FAC (fzA z) := by rw [← hw2]; exact Blk.new _ _ _
    rwa [z1] at this)
  clear k1 k2
  have HC : Hid (Calls Tryz.prog 99 #[.slice A m c, .func (.func 100) #[] #[.pointer (some ⟨w.heap.size + 1, 0, none⟩)]] w2 (ROf ((l.map (holdsN (fzX z))).any id) w2)) := Lib.hid (by
    refine con_either z _ B A m c xs (w.heap.size + 1) w2 (hr.keep HK.out.1.size (fun i hi _ => HK.out.1.block i hi)) (by rw [List.length_map, hlm]) hm HBF.out (fun i v b hv hb W hW => ?_)
    rw [List.getElem?_map] at hb
    obtain ⟨n, hn, rfl⟩ := Option.map_eq_some_iff.1 hb
    exact clo_either z _ v _ W (h i n v hn hv W (HK.out.1.trans (hW.mono HK.out.1.size))) (HBF.out.under hW))
  have hmf : ∀ (fn : Fn) (first cap : Array Value) (w : World), (Instr.makeFunc fn first cap).run Tryz.prog w = .ok (.func fn first cap) w := fun _ _ _ _ => rfl
  have n0 : w2.cell? ⟨w.heap.size, 0, none⟩ = some (.slice A m c) := HBX.out.cell 0
  obtain ⟨y, hy⟩ : ∃ y, (l.map (holdsN (fzX z))).any id = y := ⟨_, rfl⟩
  rw [hy] at HC ⊢
  clear hr hlm h HH hy
  go_enter Tryz.func98, Tryz.ntmps98
  go_wp2_with fail
  refine HC.out.mono ?_
  rintro e w3 ⟨rfl, hb⟩
  have HB3 := Lib.hid (HK.out.1.trans (hb.mono HK.out.1.size))
  clear hb hw1 hw2 n0 HC
  go_wp2_with fail
  go_ret
  exact ⟨rfl, HB3.out⟩

set_option maxHeartbeats 4000000 in
set_option maxRecDepth 100000 in
theorem row_both (z : Fz) (l : List Nd) (B : Nat) (A : Option Addr) (m c : Nat) (xs : List Value) (w : World) (hr : RowV w B A m c xs) (hlm : l.length = m) (hm : m ≤ 1000000) (h : ∀ (i : Nat) n v, l[i]? = some n → xs[i]? = some v → ∀ W, Below w.heap.size w W → InvAt z (holdsN (fzX z) n) v W) : Calls Tryz.prog 102 #[.agg #[.slice A m c], .agg (fzA z)] w (ROf (holdsN (fzX z) (.row 1 l)) w) := by
  have HH : Hid (holdsN (fzX z) (.row 1 l) = !((l.map (fun n => !holdsN (fzX z) n)).any id)) := Lib.hid (by
    rw [holdsN]
    rw [if_neg (by omega), someNot_any])
  rw [HH.out]
  show Calls Tryz.prog 102 #[.agg #[.slice A m c], .agg #[.string z.name, .string z.maker, .string z.tags, .int .i64 z.stock, .int .i64 z.price, .int .i64 z.born, .bool z.listed, .int .i64 z.now, .int .i64 z.age, .int .i64 z.fans, .bool z.follows, .bool z.done]] w _
  obtain ⟨w1, hw1⟩ : ∃ w1, w.alloc (.cells #[.slice A m c] 75) = w1 := ⟨_, rfl⟩
  obtain ⟨w2, hw2⟩ : ∃ w2, w1.alloc (.cells #[.string z.name, .string z.maker, .string z.tags, .int .i64 z.stock, .int .i64 z.price, .int .i64 z.born, .bool z.listed, .int .i64 z.now, .int .i64 z.age, .int .i64 z.fans, .bool z.follows, .bool z.done] FAC) = w2 := ⟨_, rfl⟩
  have z1 : w1.heap.size = w.heap.size + 1 := by rw [← hw1]; simp
  have k1 : Below w.heap.size w w1 := by rw [← hw1]; exact (Below.refl _ _).alloc (Nat.le_refl _) _
  have k2 : Below w1.heap.size w1 w2 := by rw [← hw2]; exact (Below.refl _ _).alloc (Nat.le_refl _) _
  have HK : Hid (Below w.heap.size w w2 ∧ w2.heap.size = w.heap.size + 2) := Lib.hid ⟨k1.trans (k2.mono (by omega)), by rw [← hw2]; simp [z1]⟩
  have HBX : Hid (Blk w2 w.heap.size 75 #[.slice A m c]) := Lib.hid (by
    have : Blk w1 w.heap.size 75 #[.slice A m c] := by rw [← hw1]; exact Blk.new _ _ _
    exact this.under k2)
  have HBF : Hid (Blk w2 (w.heap.size + 1) FAC (fzA z)) := Lib.hid (by
    have : Blk w2 w1.heap.size FAC (fzA z) := by rw [← hw2]; exact Blk.new _ _ _
    rwa [z1] at this)
  clear k1 k2
  have HC : Hid (Calls Tryz.prog 99 #[.slice A m c, .func (.func 103) #[] #[.pointer (some ⟨w.heap.size + 1, 0, none⟩)]] w2 (ROf ((l.map (fun n => !holdsN (fzX z) n)).any id) w2)) := Lib.hid (by
    refine con_both z _ B A m c xs (w.heap.size + 1) w2 (hr.keep HK.out.1.size (fun i hi _ => HK.out.1.block i hi)) (by rw [List.length_map, hlm]) hm HBF.out (fun i v b hv hb W hW => ?_)
    rw [List.getElem?_map] at hb
    obtain ⟨n, hn, rfl⟩ := Option.map_eq_some_iff.1 hb
    exact clo_both z _ v _ W (h i n v hn hv W (HK.out.1.trans (hW.mono HK.out.1.size))) (HBF.out.under hW))
  have hmf : ∀ (fn : Fn) (first cap : Array Value) (w : World), (Instr.makeFunc fn first cap).run Tryz.prog w = .ok (.func fn first cap) w := fun _ _ _ _ => rfl
  have n0 : w2.cell? ⟨w.heap.size, 0, none⟩ = some (.slice A m c) := HBX.out.cell 0
  obtain ⟨y, hy⟩ : ∃ y, (l.map (fun n => !holdsN (fzX z) n)).any id = y := ⟨_, rfl⟩
  rw [hy] at HC ⊢
  clear hr hlm h HH hy
  go_enter Tryz.func102, Tryz.ntmps102
  go_wp2_with fail
  refine HC.out.mono ?_
  rintro e w3 ⟨rfl, hb⟩
  have HB3 := Lib.hid (HK.out.1.trans (hb.mono HK.out.1.size))
  clear hb hw1 hw2 n0 HC
  go_wp2_with fail
  go_ret
  exact ⟨rfl, HB3.out⟩

set_option maxHeartbeats 4000000 in
set_option maxRecDepth 100000 in
theorem no_holds (z : Fz) (n : Nd) (v : Value) (w : World) (h : ∀ W, Below w.heap.size w W → InvAt z (holdsN (fzX z) n) v W) : Calls Tryz.prog 104 #[.agg #[v], .agg (fzA z)] w (ROf (holdsN (fzX z) (.no n)) w) := by
  have HH : Hid (holdsN (fzX z) (.no n) = !holdsN (fzX z) n) := Lib.hid (by rw [holdsN])
  rw [HH.out]
  obtain ⟨b, hb0⟩ : ∃ b, holdsN (fzX z) n = b := ⟨_, rfl⟩
  rw [hb0] at h ⊢
  clear HH hb0
  show Calls Tryz.prog 104 #[.agg #[v], .agg #[.string z.name, .string z.maker, .string z.tags, .int .i64 z.stock, .int .i64 z.price, .int .i64 z.born, .bool z.listed, .int .i64 z.now, .int .i64 z.age, .int .i64 z.fans, .bool z.follows, .bool z.done]] w _
  obtain ⟨w1, hw1⟩ : ∃ w1, w.alloc (.cells #[v] 77) = w1 := ⟨_, rfl⟩
  obtain ⟨w2, hw2⟩ : ∃ w2, w1.alloc (.cells #[.string z.name, .string z.maker, .string z.tags, .int .i64 z.stock, .int .i64 z.price, .int .i64 z.born, .bool z.listed, .int .i64 z.now, .int .i64 z.age, .int .i64 z.fans, .bool z.follows, .bool z.done] FAC) = w2 := ⟨_, rfl⟩
  have z1 : w1.heap.size = w.heap.size + 1 := by rw [← hw1]; simp
  have k1 : Below w.heap.size w w1 := by rw [← hw1]; exact (Below.refl _ _).alloc (Nat.le_refl _) _
  have k2 : Below w1.heap.size w1 w2 := by rw [← hw2]; exact (Below.refl _ _).alloc (Nat.le_refl _) _
  have HK : Hid (Below w.heap.size w w2 ∧ w2.heap.size = w.heap.size + 2) := Lib.hid ⟨k1.trans (k2.mono (by omega)), by rw [← hw2]; simp [z1]⟩
  have HBX : Hid (Blk w2 w.heap.size 77 #[v]) := Lib.hid (by
    have : Blk w1 w.heap.size 77 #[v] := by rw [← hw1]; exact Blk.new _ _ _
    exact this.under k2)
  have HBF : Hid (Blk w2 (w.heap.size + 1) FAC (fzA z)) := Lib.hid (by
    have : Blk w2 w1.heap.size FAC (fzA z) := by rw [← hw2]; exact Blk.new _ _ _
    rwa [z1] at this)
  clear k1 k2
  have n0 : w2.cell? ⟨w.heap.size, 0, none⟩ = some v := HBX.out.cell 0
  obtain ⟨c0, c1, c2, c3, c4, c5, c6, c7, c8, c9, c10, c11⟩ := fz_all HBF.out
  obtain ⟨x, ⟨rfl, hc⟩ | ⟨rfl, hc⟩ | ⟨rfl, hc⟩ | ⟨rfl, hc⟩ | ⟨rfl, hc⟩ | ⟨rfl, hc⟩⟩ := h w2 HK.out.1
  all_goals
    have HC := Lib.hid hc
    clear hc h
    unfold fzA at HC
    go_enter Tryz.func104, Tryz.ntmps104
    go_wp2_with fail
    refine HC.out.mono ?_
    rintro e w3 ⟨rfl, hb⟩
    have HB3 := Lib.hid (HK.out.1.trans (hb.mono HK.out.1.size))
    clear hb hw1 hw2 n0 HC c0 c1 c2 c3 c4 c5 c6 c7 c8 c9 c10 c11
    go_wp2_with fail
    go_ret
    exact ⟨rfl, HB3.out⟩
/-- Any node, called. -/
theorem inv_all (z : Fz) (hz : z.tags.size ≤ 900000) {n : Nd} (h : NF n) : ∀ (B : Nat) (v : Value) (w : World), NdAt w B n v → (ownN n 0).length ≤ 1000000 → GlobAt w → ∀ W, Below w.heap.size w W → InvAt z (holdsN (fzX z) n) v W := by
  induction h with
  | @atom a ha =>
    intro B v w hv hsz hg W hW
    have hg2 := hg.keep hW (Nat.le_refl _)
    cases hv with
    | atom a =>
      have e : holdsN (fzX z) (.atom a) = holdsL (fzX z) a := by rw [holdsN]
      rw [e]
      cases a with
      | follows => exact ⟨_, Or.inr (Or.inr (Or.inr (Or.inr (Or.inr ⟨rfl, follows_holds z W⟩))))⟩
      | done => exact ⟨_, Or.inr (Or.inr (Or.inr (Or.inr (Or.inr ⟨rfl, done_holds z W⟩))))⟩
      | tag x => exact ⟨_, Or.inr (Or.inr (Or.inr (Or.inl ⟨rfl, tag_holds z x W hz hg2⟩)))⟩
      | maker x => exact ⟨_, Or.inr (Or.inr (Or.inr (Or.inl ⟨rfl, maker_holds z x W⟩)))⟩
      | num k less n => exact ⟨_, Or.inr (Or.inr (Or.inr (Or.inr (Or.inl ⟨rfl, num_holds z k less n ha.1 W⟩))))⟩
  | @no n hn ih =>
    intro B v w hv hsz hg W hW
    cases hv with
    | no hv =>
      refine ⟨_, Or.inr (Or.inr (Or.inl ⟨rfl, no_holds z n _ W (fun V hV => ih B _ w hv ?_ hg V (hW.trans (hV.mono hW.size)))⟩))⟩
      rw [ownN] at hsz
      simp at hsz
      have := ownN_mono n (show 0 ≤ 3 by omega)
      omega
  | @row k l hk h hf hl ih =>
    intro B v w hv hsz hg W hW
    cases hv with
    | @row k l A m c xs hr hlm hnd =>
      have hL : (ownL l k).length ≤ 1000000 := by rw [ownN, if_neg (by omega)] at hsz; exact hsz
      have hm : m ≤ 1000000 := by
        have h1 : ∀ l : List Nd, (∀ n ∈ l, NF n) → l.length ≤ (ownM l k).length := by
          intro l
          induction l with
          | nil => intro _; exact Nat.zero_le _
          | cons n l ih =>
            intro h
            rw [ownM]
            have h2 := ih (fun x hx => h x (by simp [hx]))
            have h3 := ownN_pos (h n (by simp)) (k + 1)
            simp only [List.length_append, List.length_cons]
            omega
        have h2 : l.length ≤ (ownL l k).length := by
          cases l with
          | nil => exact Nat.zero_le _
          | cons n l =>
            rw [ownL]
            have h3 := h1 l (fun x hx => h x (by simp [hx]))
            have h4 := ownN_pos (h n (by simp)) (k + 1)
            simp only [List.length_append, List.length_cons]
            omega
        omega
      have hall : ∀ (i : Nat) n v, l[i]? = some n → xs[i]? = some v → ∀ V, Below W.heap.size W V → InvAt z (holdsN (fzX z) n) v V := fun i n v hn hv V hV => by
        have hmem := List.mem_of_getElem? hn
        have h3 := ownL_mem (k := k) hmem
        have h4 := ownN_mono n (show 0 ≤ k + 1 by omega)
        exact ih n hmem B v w (hnd i n v hn hv) (by omega) hg V (hW.trans (hV.mono hW.size))
      have hrW : RowV W B A m c xs := hr.keep hW.size (fun i hi _ => hW.block i hi)
      rcases (show k = 0 ∨ k = 1 by omega) with rfl | rfl
      · exact ⟨_, Or.inl ⟨rfl, row_either z l B A m c xs W hrW hlm hm hall⟩⟩
      · exact ⟨_, Or.inr (Or.inl ⟨rfl, row_both z l B A m c xs W hrW hlm hm hall⟩)⟩
noncomputable def holdsR (f : Fx) : Option Nd → Bool
  | none => true
  | some n => holdsN f n

set_option maxHeartbeats 4000000 in
set_option maxRecDepth 100000 in
theorem Holds_none (z : Fz) (p : Nat) (w : World) (hb : Blk w p 51 #[.nilIface]) : Calls Tryz.prog 8 #[.pointer (some ⟨p, 0, none⟩), .agg (fzA z)] w (ROf true w) := by
  show Calls Tryz.prog 8 #[.pointer (some ⟨p, 0, none⟩), .agg #[.string z.name, .string z.maker, .string z.tags, .int .i64 z.stock, .int .i64 z.price, .int .i64 z.born, .bool z.listed, .int .i64 z.now, .int .i64 z.age, .int .i64 z.fans, .bool z.follows, .bool z.done]] w _
  obtain ⟨w1, hw1⟩ : ∃ w1, w.alloc (.cells #[.string z.name, .string z.maker, .string z.tags, .int .i64 z.stock, .int .i64 z.price, .int .i64 z.born, .bool z.listed, .int .i64 z.now, .int .i64 z.age, .int .i64 z.fans, .bool z.follows, .bool z.done] FAC) = w1 := ⟨_, rfl⟩
  have k1 : Below w.heap.size w w1 := by rw [← hw1]; exact (Below.refl _ _).alloc (Nat.le_refl _) _
  have n0 : w1.cell? ⟨p, 0, none⟩ = some .nilIface := (hb.under k1).cell 0
  have HK := Lib.hid k1
  clear hb k1
  go_enter Tryz.func8, Tryz.ntmps8
  go_wp2_with fail
  go_quiet (fail)
  go_wp2_with fail
  go_ret
  exact ⟨rfl, below_drewN HK.out _⟩
set_option maxHeartbeats 4000000 in
set_option maxRecDepth 100000 in
theorem Holds_nil (z : Fz) (w : World) : Calls Tryz.prog 8 #[.pointer none, .agg (fzA z)] w (ROf true w) := by
  show Calls Tryz.prog 8 #[.pointer none, .agg #[.string z.name, .string z.maker, .string z.tags, .int .i64 z.stock, .int .i64 z.price, .int .i64 z.born, .bool z.listed, .int .i64 z.now, .int .i64 z.age, .int .i64 z.fans, .bool z.follows, .bool z.done]] w _
  obtain ⟨w1, hw1⟩ : ∃ w1, w.alloc (.cells #[.string z.name, .string z.maker, .string z.tags, .int .i64 z.stock, .int .i64 z.price, .int .i64 z.born, .bool z.listed, .int .i64 z.now, .int .i64 z.age, .int .i64 z.fans, .bool z.follows, .bool z.done] FAC) = w1 := ⟨_, rfl⟩
  have k1 : Below w.heap.size w w1 := by rw [← hw1]; exact (Below.refl _ _).alloc (Nat.le_refl _) _
  have HK := Lib.hid k1
  clear k1
  go_enter Tryz.func8, Tryz.ntmps8
  go_wp2_with fail
  go_quiet (fail)
  go_wp2_with fail
  go_ret
  exact ⟨rfl, below_drewN HK.out _⟩
set_option maxHeartbeats 4000000 in
set_option maxRecDepth 100000 in
theorem Holds_some (z : Fz) (b : Bool) (p : Nat) (v : Value) (w : World) (hb : Blk w p 51 #[v]) (h : ∀ W, Below w.heap.size w W → InvAt z b v W) : Calls Tryz.prog 8 #[.pointer (some ⟨p, 0, none⟩), .agg (fzA z)] w (ROf b w) := by
  show Calls Tryz.prog 8 #[.pointer (some ⟨p, 0, none⟩), .agg #[.string z.name, .string z.maker, .string z.tags, .int .i64 z.stock, .int .i64 z.price, .int .i64 z.born, .bool z.listed, .int .i64 z.now, .int .i64 z.age, .int .i64 z.fans, .bool z.follows, .bool z.done]] w _
  obtain ⟨w1, hw1⟩ : ∃ w1, w.alloc (.cells #[.string z.name, .string z.maker, .string z.tags, .int .i64 z.stock, .int .i64 z.price, .int .i64 z.born, .bool z.listed, .int .i64 z.now, .int .i64 z.age, .int .i64 z.fans, .bool z.follows, .bool z.done] FAC) = w1 := ⟨_, rfl⟩
  have k1 : Below w.heap.size w w1 := by rw [← hw1]; exact (Below.refl _ _).alloc (Nat.le_refl _) _
  have HBF : Hid (Blk w1 w.heap.size FAC (fzA z)) := Lib.hid (by rw [← hw1]; exact Blk.new _ _ _)
  have HBR := Lib.hid (hb.under k1)
  have HK := Lib.hid k1
  have H := Lib.hid (h w1.drew (below_drew k1))
  clear hb k1 h
  go_enter Tryz.func8, Tryz.ntmps8
  go_upto_region 1 with fail
  clear hw1
  have HSC : Hid (∀ W, Below w1.heap.size w1 W → W.cell? ⟨p, 0, none⟩ = some v ∧ Blk W w.heap.size FAC (fzA z)) := Lib.hid (fun W hW => ⟨(HBR.out.under hW).cell 0, HBF.out.under hW⟩)
  have HS0 : Hid (Below w1.heap.size w1 w1.drew) := Lib.hid (below_drew (Below.refl _ _))
  obtain ⟨x, ⟨rfl, hc⟩ | ⟨rfl, hc⟩ | ⟨rfl, hc⟩ | ⟨rfl, hc⟩ | ⟨rfl, hc⟩ | ⟨rfl, hc⟩⟩ := H.out
  all_goals
    have HC := Lib.hid hc
    unfold fzA at HC
    clear hc
    refine wp_plan (fun V => Below w1.heap.size w1 V) [(0, false), (1, false), (2, false), (3, false), (4, false), (5, false), (6, false), (7, false), (8, false), (9, false), (10, false), (11, false), (12, false), (13, false), (14, false), (15, true), (16, false), (17, false)] (by kernel_rfl) (by kernel_rfl) HS0.out ?_
    simp only [planL, List.getElem?_cons_zero, List.getElem?_cons_succ]
    repeat (first | (refine plan_on _ (by rfl) (fun W hW => by (obtain ⟨qv, qb⟩ := HSC.out W hW; obtain ⟨c0, c1, c2, c3, c4, c5, c6, c7, c8, c9, c10, c11⟩ := fz_all qb; clear qb; go_simp; try (first | with_reducible rfl | rw [if_neg (by omega)]))) ?_; simp only [Act.put, List.setIfInBounds_toArray, List.set_cons_zero, List.set_cons_succ]) | (refine plan_off (by rfl) ?_; simp only [Act.put, List.setIfInBounds_toArray, List.set_cons_zero, List.set_cons_succ]))
    refine plan_turn ?_
    go_wp2_with fail
    refine HC.out.mono ?_
    rintro e w3 ⟨rfl, hb3⟩
    have HB3 : Hid (Below w1.heap.size w1 w3) := Lib.hid (HS0.out.trans (hb3.mono (Nat.le_refl _)))
    clear hb3 HC
    go_wp2_with fail
    refine ⟨HB3.out, ?_⟩
    repeat (first | (refine plan_on _ (by rfl) (fun W hW => by (obtain ⟨qv, qb⟩ := HSC.out W hW; obtain ⟨c0, c1, c2, c3, c4, c5, c6, c7, c8, c9, c10, c11⟩ := fz_all qb; clear qb; go_simp; try (first | with_reducible rfl | rw [if_neg (by omega)]))) ?_; simp only [Act.put, List.setIfInBounds_toArray, List.set_cons_zero, List.set_cons_succ]) | (refine plan_off (by rfl) ?_; simp only [Act.put, List.setIfInBounds_toArray, List.set_cons_zero, List.set_cons_succ]))
    refine plan_done ?_
    go_wp2_with fail
    go_ret
    exact ⟨rfl, HK.out.trans (HB3.out.mono HK.out.size)⟩
theorem Holds_any (z : Fz) (hz : z.tags.size ≤ 900000) (r : Option Nd) (B : Nat) (v : Value) (w : World) (hv : RuleV w B (some r) v) (hsz : (ruleT r).size ≤ 1000000) (hg : GlobAt w) : Calls Tryz.prog 8 #[v, .agg (fzA z)] w (ROf (holdsR (fzX z) r) w) := by
  cases r with
  | none =>
    obtain ⟨g, rfl, _, hb⟩ := hv
    exact Holds_none z g w hb
  | some n =>
    obtain ⟨hn, g, u, rfl, _, hb, hu⟩ := hv
    exact Holds_some z _ g u w hb (inv_all z hz hn B u w hu (by rw [← ownB_size]; exact hsz) hg)
end Go.Proofs.YtpgbgeofhcpocaaGreatDoor

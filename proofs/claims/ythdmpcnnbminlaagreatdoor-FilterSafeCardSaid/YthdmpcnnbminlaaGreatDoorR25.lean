/- A part of the joined base. -/
import Derived.Test.YthdmpcnnbminlaaGreatDoorR01
import Derived.Test.YthdmpcnnbminlaaGreatDoorR24
import Derived.Test.YthdmpcnnbminlaaGreatDoorR02
import Derived.Test.YthdmpcnnbminlaaGreatDoorR04
set_option linter.unusedVariables false
set_option maxHeartbeats 8000000
set_option maxRecDepth 100000
namespace Go.Proofs.YthdmpcnnbminlaaGreatDoor.Ru
/-! ### how long -/
theorem ownN_mono (n : Nd) {a b : Nat} (h : a ≤ b) : (ownN n a).length ≤ (ownN n b).length := by
 cases n with
 | atom a => simp [ownN]
 | no n => simp [ownN]
 | row k l =>
  rw [ownN, ownN]
  split <;> split <;> simp <;> omega
theorem ownN_up (n : Nd) (a b : Nat) : (ownN n a).length ≤ (ownN n b).length + 2 := by
 cases n with
 | atom a => simp [ownN]
 | no n => simp [ownN]
 | row k l =>
  rw [ownN, ownN]
  split <;> split <;> simp <;> omega
def lenM (k wi : Nat) (l : List Nd) : Nat := (l.map (fun n => (ownN n wi).length + (sepW k).length)).sum
theorem lenM_cons (k wi : Nat) (n : Nd) (l : List Nd) : lenM k wi (n :: l) = (ownN n wi).length + (sepW k).length + lenM k wi l := by unfold lenM; rw [List.map_cons, List.sum_cons]
theorem lenM_app (k wi : Nat) (a b : List Nd) : lenM k wi (a ++ b) = lenM k wi a + lenM k wi b := by unfold lenM; rw [List.map_append, List.sum_append]
theorem ownM_len2 (k : Nat) : ∀ l : List Nd, (ownM l k).length = lenM k (k + 1) l
 | [] => by rw [ownM]; rfl
 | n :: l => by rw [ownM, lenM_cons, List.length_append, List.length_append, ownM_len2 k l]; omega
theorem ownL_len2 (k : Nat) (l : List Nd) (h : l ≠ []) : (ownL l k).length + (sepW k).length = lenM k (k + 1) l := by
 cases l with
 | nil => exact absurd rfl h
 | cons n l => rw [ownL, lenM_cons, List.length_append, ownM_len2]; omega
theorem parts_len {k : Nat} {n : Nd} (h : NF n) : lenM k (k + 1) (parts' k n) ≤ (ownN n (k + 2)).length + (sepW k).length := by
 have h0 : ∀ n : Nd, lenM k (k + 1) [n] ≤ (ownN n (k + 2)).length + (sepW k).length := fun n => by
  rw [lenM_cons]
  have := ownN_mono n (show k + 1 ≤ k + 2 by omega)
  show _ + 0 ≤ _
  omega
 cases h with
 | atom h => exact h0 _
 | no h => exact h0 _
 | @row k' l hk h hf hl =>
  simp only [parts']
  by_cases e : k' = k
  ·rw [if_pos e]
   subst e
   rw [← ownL_len2 k' l (by intro e2; rw [e2] at hl; simp at hl), ownN, if_pos (by omega)]
   simp
   omega
  ·rw [if_neg e]
   exact h0 _
theorem parts_lenL {k : Nat} : ∀ {ns : List Nd}, (∀ n ∈ ns, NF n) → lenM k (k + 1) (ns.flatMap (parts' k)) ≤ lenM k (k + 2) ns
 | [], _ => Nat.le_refl _
 | n :: ns, h => by
  rw [List.flatMap_cons, lenM_app, lenM_cons]
  have h1 := parts_len (k := k) (h n (by simp))
  have h2 := parts_lenL (k := k) (ns := ns) (fun x hx => h x (by simp [hx]))
  omega
theorem nodeOf_len {k : Nat} {ns : List Nd} (hk : k < 2) (hne : ns ≠ []) (hnf : ∀ n ∈ ns, NF n) : (ownN (nodeOf k ns) (k + 1)).length + (sepW k).length ≤ lenM k (k + 2) ns := by
 unfold nodeOf
 rw [if_pos hk]
 have h1 := parts_lenL (k := k) hnf
 generalize hg : ns.flatMap (parts' k) = l at h1
 match l, h1 with
 | [], h1 =>
  exfalso
  obtain ⟨n, r, rfl⟩ := List.exists_cons_of_ne_nil hne
  rw [List.flatMap_cons] at hg
  exact parts_ne (k := k) (hnf n (by simp)) (List.append_eq_nil_iff.1 hg).1
 | [n], h1 =>
  rw [lenM_cons] at h1
  show (ownN n (k + 1)).length + _ ≤ _
  have : lenM k (k + 1) [] = 0 := rfl
  omega
 | a :: b :: r, h1 =>
  show (ownN (.row k (a :: b :: r)) (k + 1)).length + _ ≤ _
  rw [ownN, if_neg (by omega)]
  have := ownL_len2 k (a :: b :: r) (by simp)
  omega
theorem sep_len {k : Nat} (hk : k < 2) : (sepW k).length ≤ 2 * (wordOf k).size ∧ (sepW k).length = (wordOf k).size + 2 := by
 rcases (show k = 0 ∨ k = 1 by omega) with rfl | rfl <;> decide
theorem hd_sz {L : List ByteArray} {c : ByteArray} (h : hd L = c) (hc : c ≠ ⟨#[]⟩) : szL L = c.size + szL L.tail := by
 cases L with
 | nil => exact absurd h.symm hc
 | cons a r =>
  have h1 : a = c := h
  subst h1
  exact szL_cons _ _
theorem P.len {k d : Nat} {L L1 : List ByteArray} {ok : Bool} {ns : List Nd} (h : P k d L ok L1 ns) : ok = true → k ≤ 2 → (k < 2 → lenM k (k + 2) ns + 2 * szL L1 ≤ 2 * szL L + (sepW k).length) ∧ (k = 2 → (ownN (nodeOf 2 ns) 3).length + 2 * szL L1 ≤ 2 * szL L) := by
 have up : ∀ {k d : Nat} {L L1 : List ByteArray} {ns : List Nd}, k < 2 → P (k + 1) d L true L1 ns → ((k + 1 < 2 → lenM (k + 1) (k + 1 + 2) ns + 2 * szL L1 ≤ 2 * szL L + (sepW (k + 1)).length) ∧ (k + 1 = 2 → (ownN (nodeOf 2 ns) 3).length + 2 * szL L1 ≤ 2 * szL L)) → (ownN (nodeOf (k + 1) ns) (k + 2)).length + 2 * szL L1 ≤ 2 * szL L := fun {k d L L1 ns} hk hp hi => by
  by_cases h1 : k + 1 < 2
  ·have h2 := hi.1 h1
   have h3 := nodeOf_len h1 (hp.nf rfl).1 (hp.nf rfl).2
   rw [show k + 1 + 1 = k + 2 by omega] at h3
   omega
  ·obtain rfl : k = 1 := by omega
   exact hi.2 rfl
 induction h with
 | @rlast k d L L1 ok ns hk h hn ih =>
  intro ho h2
  subst ho
  refine ⟨fun _ => ?_, fun e => by omega⟩
  have := up hk h (ih rfl (by omega))
  rw [lenM_cons]
  have h0 : lenM k (k + 2) [] = 0 := rfl
  omega
 | @rmore k d L L1 L2 ok ns ns2 hk h hw h2 ih ih2 =>
  intro ho h2'
  subst ho
  refine ⟨fun _ => ?_, fun e => by omega⟩
  have h3 := up hk h (ih rfl (by omega))
  have h4 := (ih2 rfl (by omega)).1 hk
  rw [lenM_cons]
  have h5 := hd_sz hw (by rcases (show k = 0 ∨ k = 1 by omega) with rfl | rfl <;> decide)
  have h6 := (sep_len hk).1
  omega
 | @no d L L1 ok ns hw h ih =>
  intro ho h2
  subst ho
  refine ⟨fun e => by omega, fun _ => ?_⟩
  have h3 := (ih rfl (by omega)).2 rfl
  have h4 := hd_sz hw (by decide)
  show (ownN (.no (nodeOf 2 ns)) 3).length + _ ≤ _
  rw [ownN]
  have h5 : notW.size = 3 := rfl
  have h6 : notW.data.toList.length = 3 := rfl
  simp only [List.length_append, List.length_singleton]
  omega
 | @open_ d L L1 ns hw hd' h hc ih =>
  intro ho h2
  refine ⟨fun e => by omega, fun _ => ?_⟩
  have h3 := (ih rfl (by omega)).1 (by omega)
  have h4 := hd_sz hw (by decide)
  have h5 := hd_sz hc (by decide)
  have h6 : openW.size = 1 := rfl
  have h7 : closeW.size = 1 := rfl
  have h8 := nodeOf_len (k := 0) (by omega) (h.nf rfl).1 (h.nf rfl).2
  have h9 := ownN_up (nodeOf 0 ns) 3 (0 + 1)
  show (ownN (nodeOf 0 ns) 3).length + _ ≤ _
  omega
 | openBad hw hd' h hc ih => intro ho; cases ho
 | @leaf d L a h =>
  intro ho h2
  refine ⟨fun e => by omega, fun _ => ?_⟩
  have h4 := hd_sz (L := L) (c := leafT a) h.2 (by intro e; exact leaf_ne h.1 (by rw [e]))
  show (ownN (.atom a) 3).length + _ ≤ _
  rw [ownN]
  have h5 : (leafT a).data.toList.length = (leafT a).size := by simp
  have h6 : szL L.tail ≤ szL L := by omega
  omega
 | bad h1 h2 h3 => intro ho; cases ho
/-! ### parsed again -/
end Go.Proofs.YthdmpcnnbminlaaGreatDoor.Ru
namespace Go.Proofs.YthdmpcnnbminlaaGreatDoor.Ru
open Go.RowKit Go.Maps Go.Shelf
theorem ownB_sz (n : Nd) (wi : Nat) : (ownB n wi).size = (ownN n wi).length := by show (ownN n wi).toArray.size = _; simp
theorem ownL_mem {k : Nat} : ∀ {l : List Nd} {n : Nd}, n ∈ l → (ownN n (k + 1)).length ≤ (ownL l k).length := by
 intro l n h
 have hM : ∀ (l : List Nd), n ∈ l → (ownN n (k + 1)).length ≤ (ownM l k).length := by
  intro l
  induction l with
  | nil => intro h; cases h
  | cons m l ih =>
   intro h
   rw [ownM]
   simp only [List.length_append]
   rcases List.mem_cons.1 h with rfl | h
   ·omega
   ·have := ih h; omega
 cases l with
 | nil => cases h
 | cons m l =>
  rw [ownL]
  simp only [List.length_append]
  rcases List.mem_cons.1 h with rfl | h
  ·omega
  ·have := hM l h; omega
end Go.Proofs.YthdmpcnnbminlaaGreatDoor.Ru
namespace Go.Proofs.YthdmpcnnbminlaaGreatDoor.Ru
open Go.RowKit Go.Maps Go.Shelf
end Go.Proofs.YthdmpcnnbminlaaGreatDoor.Ru
namespace Go.Proofs.YthdmpcnnbminlaaGreatDoor.Ru
open Go.RowKit Go.Maps Go.Shelf
theorem Says.sz {s : ByteArray} {r : Option Nd} {a : Nat} (h : Says s (some r) a) : (ruleT r).size ≤ 4000 := by
 cases h with
 | empty h h0 => exact Nat.zero_le _
 | @good ns h h0 hp =>
  have hnf := hp.nf rfl
  have h1 := (hp.len rfl (by omega)).1 (by omega)
  have h2 := nodeOf_len (k := 0) (by omega) hnf.1 hnf.2
  have h3 := ownN_mono (nodeOf 0 ns) (show 0 ≤ 0 + 1 by omega)
  have h4 : szL (tx (toks s)) ≤ s.size := by
   rw [toks_tk]
   have := tkA_sz s.data.toList []
   unfold tkS
   simpa using this
  have h5 : szL [] = 0 := rfl
  have h6 : (ruleT (some (nodeOf 0 ns))).size = (ownN (nodeOf 0 ns) 0).length := ownB_sz _ 0
  rw [h6]
  omega
end Go.Proofs.YthdmpcnnbminlaaGreatDoor.Ru
namespace Go.Proofs.YthdmpcnnbminlaaGreatDoor.Ru
open Go.Shelf Go.RowKit Go.Maps
theorem _root_.Go.Proofs.YthdmpcnnbminlaaGreatDoor.Blk.at3 {w : World} {b : Nat} {t : TypeId} {x y z : Value} (h : Blk w b t #[x, y, z]) : w.cell? ⟨b, 0, none⟩ = some x ∧ w.cell? ⟨b, 1, none⟩ = some y ∧ w.cell? ⟨b, 2, none⟩ = some z ∧ w.frozen? ⟨b, 0, none⟩ = false ∧ w.frozen? ⟨b, 1, none⟩ = false ∧ w.frozen? ⟨b, 2, none⟩ = false :=
 ⟨h.cell 0, h.cell 1, h.cell 2, h.frozen 0, h.frozen 1, h.frozen 2⟩
theorem _root_.Go.Proofs.YthdmpcnnbminlaaGreatDoor.Blk.under {w w' : World} {b : Nat} {t : TypeId} {cs : Array Value} (h : Blk w b t cs) (k : Below w.heap.size w w') : Blk w' b t cs := (k.block b h.lt).trans h
theorem tparts_len (s : ByteArray) : (parts s).length = Lib.countB s ⟨#[44]⟩ + 1 := Go.Proofs.YthdmpcnnbminlaaGreatDoor.parts_len s
theorem sindex_any (w : World) (B : Nat) (A : Option Addr) (l : List ByteArray) (n c : Nat) (s : ByteArray) (hn : l.length = n) (hl : RowIn w B 1 A n (l.map .string)) (hb : n ≤ 1000000) :
  Calls Tryz.prog 107 #[.slice A n c, .string s] w fun e w' => ∃ z : Int, e = .returned (.int .i64 z) ∧ (decide (0 ≤ z) = memB s l) ∧ w = w' := by
 have HN := zh hn
 have HL := zh hl
 clear hn hl
 go_enter Tryz.func107, Tryz.ntmps107
 go_wp2_with fail
 go_loopw [8] (fun i wr => ∃ k : Nat, k ≤ n ∧ i = .int .i64 k ∧ Hid (∀ j t, j < k → l[j]? = some t → t ≠ s) ∧ wr = w) (fun i _ => n - (intOf i).toNat)
 case atStart => exact ⟨0, Nat.zero_le _, rfl, zh (fun j t hj => by omega), rfl⟩
 case round =>
  obtain ⟨k, hk, rfl, hok, rfl⟩ := hrel
  by_cases hlt : k < n
  ·obtain ⟨t, ht⟩ : ∃ t, l[k]? = some t := ⟨l[k]'(by rw [HN.out]; exact hlt), List.getElem?_eq_getElem _⟩
   obtain ⟨g, o, rfl, _, hc⟩ := HL.out.at (by omega)
   have e0 : wr.cell? ⟨g, o + k, none⟩ = some (.string t) := hc k _ (by simp [ht])
   have HTK := zh ht
   have hk8 : (k : Int) < (n : Int) := by omega
   have hk9 : (0 : Int) ≤ (k : Int) := by omega
   clear ht hc
   by_cases he : t = s
   ·have HE : Hid (memB s l = true) := zh ((memB_iff _ _).2 (by rw [← he]; exact List.mem_of_getElem? HTK.out))
    have q1 : (s.toList == t.toList) = true := (beq_list s t).2 he.symm
    clear he
    go_wp2_with fail
    go_ret
    exact ⟨(k : Int), rfl, by rw [HE.out]; exact decide_eq_true hk9, rfl⟩
   ·have HE := zh he
    have q1 : (s.toList == t.toList) = false := Bool.eq_false_iff.2 (fun e => he ((beq_list s t).1 e).symm)
    clear he
    go_wp2_with fail
    go_roundw
    case rel =>
     refine ⟨k + 1, by omega, by go_num, zh (fun j u hj hu => ?_), by trivial⟩
     by_cases e : j = k
     ·subst e; rw [HTK.out] at hu; cases hu; exact HE.out
     ·exact hok.out j u (by omega) hu
    case measure => simp [intOf]; omega
  ·have HF : Hid (memB s l = false) := zh (by
    cases hm : memB s l
    ·rfl
    ·obtain ⟨j, hj⟩ := List.mem_iff_getElem?.1 ((memB_iff _ _).1 hm)
     have := (List.getElem?_eq_some_iff.1 hj).1
     rw [HN.out] at this
     exact absurd rfl (hok.out j s (by omega) hj))
   go_wp2_with fail
   go_ret
   exact ⟨-1, rfl, by rw [HF.out]; rfl, rfl⟩
theorem contains_any (w : World) (B : Nat) (A : Option Addr) (l : List ByteArray) (n c : Nat) (s : ByteArray) (hn : l.length = n) (hl : RowIn w B 1 A n (l.map .string)) (hb : n ≤ 1000000) :
  Calls Tryz.prog 60 #[.slice A n c, .string s] w fun e w' => e = .returned (.bool (memB s l)) ∧ w = w' := by
 have HI := zh (sindex_any w B A l n c s hn hl hb)
 clear hn hl
 go_enter Tryz.func60, Tryz.ntmps60
 go_wp2_with fail
 refine HI.out.mono ?_
 rintro e w2 ⟨z, rfl, hz, rfl⟩
 have HZ := zh hz
 clear hz HI
 go_wp2_with fail
 go_ret
 exact ⟨ret_bool HZ.out, rfl⟩
end Go.Proofs.YthdmpcnnbminlaaGreatDoor.Ru

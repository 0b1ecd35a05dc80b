/- A rule's own text is parsed as the rule, and isn't long: plain. The document of rules: a rule's own text. The laws of rules: the chapter's examples. RuleParses: the walk. slices.Contains of strings; a thing's tags, as the event texts have them. -/
import Derived.Test.YthdmpcnnbminlaaGreatDoorQ01
import Derived.Test.YthdmpcnnbminlaaGreatDoorQ24
import Derived.Test.YthdmpcnnbminlaaGreatDoorQ02
import Derived.Test.YthdmpcnnbminlaaGreatDoorQ04
set_option linter.unusedVariables false
namespace Go.Proofs.YthdmpcnnbminlaaGreatDoor.Ru
mutual
def dep : Nd → Nat → Nat
 | .atom _, _ => 0
 | .no n, _ => dep n 3
 | .row k l, wi => if k + 1 < wi then 1 + depL l k else depL l k
def depL : List Nd → Nat → Nat
 | [], _ => 0
 | n :: l, k => max (dep n (k + 1)) (depL l k)
end
theorem depL_mem {k : Nat} : ∀ {l : List Nd} {n : Nd}, n ∈ l → dep n (k + 1) ≤ depL l k
 | m :: l, n, h => by
  rw [depL]
  rcases List.mem_cons.1 h with rfl | h
  ·exact Nat.le_max_left _ _
  ·exact Nat.le_trans (depL_mem h) (Nat.le_max_right _ _)
theorem depL_le {k N : Nat} : ∀ {l : List Nd}, (∀ n ∈ l, dep n (k + 1) ≤ N) → depL l k ≤ N
 | [], _ => Nat.zero_le _
 | m :: l, h => by
  rw [depL]
  exact Nat.max_le.2 ⟨h m (by simp), depL_le (fun n hn => h n (by simp [hn]))⟩
theorem dep_mono (n : Nd) {a b : Nat} (h : a ≤ b) : dep n a ≤ dep n b := by
 cases n with
 | atom a => simp [dep]
 | no n => simp [dep]
 | row k l =>
  rw [dep, dep]
  split <;> split <;> omega
theorem dep_up (n : Nd) (a b : Nat) : dep n a ≤ dep n b + 1 := by
 cases n with
 | atom a => simp [dep]
 | no n => simp [dep]
 | row k l =>
  rw [dep, dep]
  split <;> split <;> omega
def lv (k : Nat) : Nat := if k = 0 then 2 else 3
theorem nodeOf_dep {k d : Nat} {ns : List Nd} (hk : k ≤ 2) (hne : ns ≠ []) (hnf : ∀ n ∈ ns, NF n) (h : ∀ n ∈ ns, d + dep n (lv k) ≤ 40) : d + dep (nodeOf k ns) (k + 1) ≤ 40 := by
 unfold nodeOf
 by_cases h2 : k < 2
 ·rw [if_pos h2]
  have hlv : lv k = k + 2 := by unfold lv; split <;> omega
  rw [hlv] at h
  have hall : ∀ m ∈ ns.flatMap (parts' k), d + dep m (k + 1) ≤ 40 := fun m hm => by
   obtain ⟨n, hn, hq⟩ := List.mem_flatMap.1 hm
   have h3 := h n hn
   cases n with
   | atom a => simp [parts'] at hq; subst hq; have := dep_mono (.atom a) (show k + 1 ≤ k + 2 by omega); omega
   | no n => simp [parts'] at hq; subst hq; have := dep_mono (.no n) (show k + 1 ≤ k + 2 by omega); omega
   | row k' l =>
    simp only [parts'] at hq
    by_cases e : k' = k
    ·rw [if_pos e] at hq
     subst e
     rw [dep, if_pos (by omega)] at h3
     have := depL_mem (k := k') hq
     omega
    ·rw [if_neg e] at hq
     simp at hq
     subst hq
     have := dep_mono (.row k' l) (show k + 1 ≤ k + 2 by omega)
     omega
  generalize hg : ns.flatMap (parts' k) = l at hall
  match l, hall with
  | [], hall =>
   exfalso
   obtain ⟨n, r, rfl⟩ := List.exists_cons_of_ne_nil hne
   rw [List.flatMap_cons] at hg
   exact parts_ne (k := k) (hnf n (by simp)) (List.append_eq_nil_iff.1 hg).1
  | [n], hall => exact hall n (by simp)
  | a :: b :: r, hall =>
   show d + dep (.row k (a :: b :: r)) (k + 1) ≤ 40
   rw [dep, if_neg (by omega)]
   have h4 := hall a (by simp)
   have := depL_le (k := k) (N := 40 - d) (l := a :: b :: r) (fun n hn => by have := hall n hn; omega)
   omega
 ·obtain rfl : k = 2 := by omega
  rw [if_neg h2]
  obtain ⟨n, r, rfl⟩ := List.exists_cons_of_ne_nil hne
  exact h n (by simp)
theorem P.deep {k d : Nat} {L L1 : List ByteArray} {ok : Bool} {ns : List Nd} (h : P k d L ok L1 ns) : ok = true → k ≤ 2 → d ≤ 40 → ∀ n ∈ ns, d + dep n (lv k) ≤ 40 := by
 have hlv : ∀ {k}, k < 2 → lv k = k + 1 + 1 := fun {k} hk => by unfold lv; split <;> omega
 induction h with
 | rlast hk h hn ih =>
  intro ho h2 hd n hn
  rw [List.mem_singleton] at hn
  subst hn
  rw [hlv hk]
  exact nodeOf_dep (by omega) (h.nf ho).1 (h.nf ho).2 (ih ho (by omega) hd)
 | rmore hk h hw h2 ih ih2 =>
  intro ho h2' hd n hn
  rcases List.mem_cons.1 hn with rfl | hn
  ·rw [hlv hk]
   exact nodeOf_dep (by omega) (h.nf rfl).1 (h.nf rfl).2 (ih rfl (by omega) hd)
  ·exact ih2 ho h2' hd n hn
 | no hw h ih =>
  intro ho h2 hd n hn
  rw [List.mem_singleton] at hn
  subst hn
  show _ + dep (.no _) 3 ≤ 40
  rw [dep]
  exact nodeOf_dep (k := 2) (by omega) (h.nf ho).1 (h.nf ho).2 (ih ho (by omega) hd)
 | @open_ d L L1 ns hw hd' h hc ih =>
  intro ho h2 hd n hn
  rw [List.mem_singleton] at hn
  subst hn
  have := nodeOf_dep (k := 0) (by omega) (h.nf rfl).1 (h.nf rfl).2 (ih rfl (by omega) (by omega))
  have h3 := dep_up (nodeOf 0 ns) (lv 2) (0 + 1)
  omega
 | openBad hw hd' h hc ih => intro ho; cases ho
 | leaf h =>
  intro ho h2 hd n hn
  rw [List.mem_singleton] at hn
  subst hn
  rw [dep]
  omega
 | bad h1 h2 h3 => intro ho; cases ho
/-! ### how long -/
theorem ownN_mono (n : Nd) {a b : Nat} (h : a ≤ b) : (ownN n a).length ≤ (ownN n b).length := by
 cases n with
 | atom a => simp [ownN]
 | no n => simp [ownN]
 | row k l =>
  rw [ownN, ownN]
  split <;> split <;> simp <;> omega
theorem ownN_up (n : Nd) (a b : Nat) : (ownN n a).length ≤ (ownN n b).length + 2 := by
 cases n with
 | atom a => simp [ownN]
 | no n => simp [ownN]
 | row k l =>
  rw [ownN, ownN]
  split <;> split <;> simp <;> omega
def lenM (k wi : Nat) (l : List Nd) : Nat := (l.map (fun n => (ownN n wi).length + (sepW k).length)).sum
theorem lenM_cons (k wi : Nat) (n : Nd) (l : List Nd) : lenM k wi (n :: l) = (ownN n wi).length + (sepW k).length + lenM k wi l := by unfold lenM; rw [List.map_cons, List.sum_cons]
theorem lenM_app (k wi : Nat) (a b : List Nd) : lenM k wi (a ++ b) = lenM k wi a + lenM k wi b := by unfold lenM; rw [List.map_append, List.sum_append]
theorem ownM_len2 (k : Nat) : ∀ l : List Nd, (ownM l k).length = lenM k (k + 1) l
 | [] => by rw [ownM]; rfl
 | n :: l => by rw [ownM, lenM_cons, List.length_append, List.length_append, ownM_len2 k l]; omega
theorem ownL_len2 (k : Nat) (l : List Nd) (h : l ≠ []) : (ownL l k).length + (sepW k).length = lenM k (k + 1) l := by
 cases l with
 | nil => exact absurd rfl h
 | cons n l => rw [ownL, lenM_cons, List.length_append, ownM_len2]; omega
theorem parts_len {k : Nat} {n : Nd} (h : NF n) : lenM k (k + 1) (parts' k n) ≤ (ownN n (k + 2)).length + (sepW k).length := by
 have h0 : ∀ n : Nd, lenM k (k + 1) [n] ≤ (ownN n (k + 2)).length + (sepW k).length := fun n => by
  rw [lenM_cons]
  have := ownN_mono n (show k + 1 ≤ k + 2 by omega)
  show _ + 0 ≤ _
  omega
 cases h with
 | atom h => exact h0 _
 | no h => exact h0 _
 | @row k' l hk h hf hl =>
  simp only [parts']
  by_cases e : k' = k
  ·rw [if_pos e]
   subst e
   rw [← ownL_len2 k' l (by intro e2; rw [e2] at hl; simp at hl), ownN, if_pos (by omega)]
   simp
   omega
  ·rw [if_neg e]
   exact h0 _
theorem parts_lenL {k : Nat} : ∀ {ns : List Nd}, (∀ n ∈ ns, NF n) → lenM k (k + 1) (ns.flatMap (parts' k)) ≤ lenM k (k + 2) ns
 | [], _ => Nat.le_refl _
 | n :: ns, h => by
  rw [List.flatMap_cons, lenM_app, lenM_cons]
  have h1 := parts_len (k := k) (h n (by simp))
  have h2 := parts_lenL (k := k) (ns := ns) (fun x hx => h x (by simp [hx]))
  omega
theorem nodeOf_len {k : Nat} {ns : List Nd} (hk : k < 2) (hne : ns ≠ []) (hnf : ∀ n ∈ ns, NF n) : (ownN (nodeOf k ns) (k + 1)).length + (sepW k).length ≤ lenM k (k + 2) ns := by
 unfold nodeOf
 rw [if_pos hk]
 have h1 := parts_lenL (k := k) hnf
 generalize hg : ns.flatMap (parts' k) = l at h1
 match l, h1 with
 | [], h1 =>
  exfalso
  obtain ⟨n, r, rfl⟩ := List.exists_cons_of_ne_nil hne
  rw [List.flatMap_cons] at hg
  exact parts_ne (k := k) (hnf n (by simp)) (List.append_eq_nil_iff.1 hg).1
 | [n], h1 =>
  rw [lenM_cons] at h1
  show (ownN n (k + 1)).length + _ ≤ _
  have : lenM k (k + 1) [] = 0 := rfl
  omega
 | a :: b :: r, h1 =>
  show (ownN (.row k (a :: b :: r)) (k + 1)).length + _ ≤ _
  rw [ownN, if_neg (by omega)]
  have := ownL_len2 k (a :: b :: r) (by simp)
  omega
theorem sep_len {k : Nat} (hk : k < 2) : (sepW k).length ≤ 2 * (wordOf k).size ∧ (sepW k).length = (wordOf k).size + 2 := by
 rcases (show k = 0 ∨ k = 1 by omega) with rfl | rfl <;> decide
theorem hd_sz {L : List ByteArray} {c : ByteArray} (h : hd L = c) (hc : c ≠ ⟨#[]⟩) : szL L = c.size + szL L.tail := by
 cases L with
 | nil => exact absurd h.symm hc
 | cons a r =>
  have h1 : a = c := h
  subst h1
  exact szL_cons _ _
theorem P.len {k d : Nat} {L L1 : List ByteArray} {ok : Bool} {ns : List Nd} (h : P k d L ok L1 ns) : ok = true → k ≤ 2 → (k < 2 → lenM k (k + 2) ns + 2 * szL L1 ≤ 2 * szL L + (sepW k).length) ∧ (k = 2 → (ownN (nodeOf 2 ns) 3).length + 2 * szL L1 ≤ 2 * szL L) := by
 have up : ∀ {k d : Nat} {L L1 : List ByteArray} {ns : List Nd}, k < 2 → P (k + 1) d L true L1 ns → ((k + 1 < 2 → lenM (k + 1) (k + 1 + 2) ns + 2 * szL L1 ≤ 2 * szL L + (sepW (k + 1)).length) ∧ (k + 1 = 2 → (ownN (nodeOf 2 ns) 3).length + 2 * szL L1 ≤ 2 * szL L)) → (ownN (nodeOf (k + 1) ns) (k + 2)).length + 2 * szL L1 ≤ 2 * szL L := fun {k d L L1 ns} hk hp hi => by
  by_cases h1 : k + 1 < 2
  ·have h2 := hi.1 h1
   have h3 := nodeOf_len h1 (hp.nf rfl).1 (hp.nf rfl).2
   rw [show k + 1 + 1 = k + 2 by omega] at h3
   omega
  ·obtain rfl : k = 1 := by omega
   exact hi.2 rfl
 induction h with
 | @rlast k d L L1 ok ns hk h hn ih =>
  intro ho h2
  subst ho
  refine ⟨fun _ => ?_, fun e => by omega⟩
  have := up hk h (ih rfl (by omega))
  rw [lenM_cons]
  have h0 : lenM k (k + 2) [] = 0 := rfl
  omega
 | @rmore k d L L1 L2 ok ns ns2 hk h hw h2 ih ih2 =>
  intro ho h2'
  subst ho
  refine ⟨fun _ => ?_, fun e => by omega⟩
  have h3 := up hk h (ih rfl (by omega))
  have h4 := (ih2 rfl (by omega)).1 hk
  rw [lenM_cons]
  have h5 := hd_sz hw (by rcases (show k = 0 ∨ k = 1 by omega) with rfl | rfl <;> decide)
  have h6 := (sep_len hk).1
  omega
 | @no d L L1 ok ns hw h ih =>
  intro ho h2
  subst ho
  refine ⟨fun e => by omega, fun _ => ?_⟩
  have h3 := (ih rfl (by omega)).2 rfl
  have h4 := hd_sz hw (by decide)
  show (ownN (.no (nodeOf 2 ns)) 3).length + _ ≤ _
  rw [ownN]
  have h5 : notW.size = 3 := rfl
  have h6 : notW.data.toList.length = 3 := rfl
  simp only [List.length_append, List.length_singleton]
  omega
 | @open_ d L L1 ns hw hd' h hc ih =>
  intro ho h2
  refine ⟨fun e => by omega, fun _ => ?_⟩
  have h3 := (ih rfl (by omega)).1 (by omega)
  have h4 := hd_sz hw (by decide)
  have h5 := hd_sz hc (by decide)
  have h6 : openW.size = 1 := rfl
  have h7 : closeW.size = 1 := rfl
  have h8 := nodeOf_len (k := 0) (by omega) (h.nf rfl).1 (h.nf rfl).2
  have h9 := ownN_up (nodeOf 0 ns) 3 (0 + 1)
  show (ownN (nodeOf 0 ns) 3).length + _ ≤ _
  omega
 | openBad hw hd' h hc ih => intro ho; cases ho
 | @leaf d L a h =>
  intro ho h2
  refine ⟨fun e => by omega, fun _ => ?_⟩
  have h4 := hd_sz (L := L) (c := leafT a) h.2 (by intro e; exact leaf_ne h.1 (by rw [e]))
  show (ownN (.atom a) 3).length + _ ≤ _
  rw [ownN]
  have h5 : (leafT a).data.toList.length = (leafT a).size := by simp
  have h6 : szL L.tail ≤ szL L := by omega
  omega
 | bad h1 h2 h3 => intro ho; cases ho
/-! ### parsed again -/
def Again (n : Nd) (k d : Nat) (T rest : List ByteArray) : Prop := ∃ ns, P k d (T ++ rest) true rest ns ∧ nodeOf k ns = n
def Stop (k : Nat) (rest : List ByteArray) : Prop := ∀ j, k ≤ j → j < 2 → hd rest ≠ wordOf j
theorem Again.lift {n : Nd} {k d : Nat} {T rest : List ByteArray} (hk : k < 2) (h : Again n (k + 1) d T rest) (hs : Stop k rest) (hn : ∀ l, n ≠ .row k l) : Again n k d T rest := by
 obtain ⟨ns, h1, h2⟩ := h
 refine ⟨_, .rlast hk h1 (Or.inr (hs k (Nat.le_refl _) hk)), ?_⟩
 rw [h2]
 unfold nodeOf
 rw [if_pos hk]
 cases n with
 | atom a => rfl
 | no n => rfl
 | row k' l =>
  have e : k' ≠ k := by rintro rfl; exact hn l rfl
  simp [parts', e, mkRow]
theorem Again.brackets {n : Nd} {d : Nat} {T rest : List ByteArray} (hd : d < 40) (h : Again n 0 (d + 1) T (closeW :: rest)) : Again n 2 d (openW :: (T ++ [closeW])) rest := by
 obtain ⟨ns, h1, h2⟩ := h
 refine ⟨[nodeOf 0 ns], ?_, by rw [h2]; rfl⟩
 have h3 : P 0 (d + 1) ((openW :: (T ++ [closeW])) ++ rest).tail true (closeW :: rest) ns := by
  have e : ((openW :: (T ++ [closeW])) ++ rest).tail = T ++ closeW :: rest := by simp
  rw [e]
  exact h1
 exact .open_ rfl hd h3 rfl
theorem stop_close (rest : List ByteArray) (k : Nat) : Stop k (closeW :: rest) := fun j _ h => by
 show closeW ≠ wordOf j
 rcases (show j = 0 ∨ j = 1 by omega) with rfl | rfl <;> decide
theorem tkM_go {k d : Nat} (hk : k < 2) : ∀ (l : List Nd) (n : Nd) (rest : List ByteArray), (∀ m ∈ n :: l, ∀ r, Stop (k + 1) r → Again m (k + 1) d (tkN m (k + 1)) r) → Stop k rest → P k d (tkN n (k + 1) ++ (tkM l k ++ rest)) true rest (n :: l)
 | [], n, rest, h, hs => by
  rw [tkM, List.nil_append]
  obtain ⟨ns, h1, h2⟩ := h n (by simp) rest (fun j h1 h2 => hs j (by omega) h2)
  have := P.rlast hk h1 (Or.inr (hs k (Nat.le_refl _) hk))
  rw [h2] at this
  exact this
 | m :: l, n, rest, h, hs => by
  have h3 := tkM_go hk l m rest (fun x hx => h x (by simp [hx])) hs
  rw [tkM]
  have hst : Stop (k + 1) (wordOf k :: (tkN m (k + 1) ++ tkM l k) ++ rest) := fun j hj1 hj2 => by
   obtain rfl : k = 0 := by omega
   obtain rfl : j = 1 := by omega
   show orW ≠ andW
   decide
  obtain ⟨ns, h1, h2⟩ := h n (by simp) _ hst
  have h4 : P k d (wordOf k :: (tkN m (k + 1) ++ tkM l k) ++ rest).tail true rest (m :: l) := by
   have e : (wordOf k :: (tkN m (k + 1) ++ tkM l k) ++ rest).tail = tkN m (k + 1) ++ (tkM l k ++ rest) := by simp
   rw [e]
   exact h3
  have := P.rmore hk h1 rfl h4
  rw [h2] at this
  exact this
theorem flat_self {k : Nat} : ∀ {l : List Nd}, (∀ n ∈ l, ∀ l', n ≠ .row k l') → l.flatMap (parts' k) = l
 | [], _ => rfl
 | n :: l, h => by
  rw [List.flatMap_cons, flat_self (fun m hm => h m (by simp [hm]))]
  have : parts' k n = [n] := by
   cases n with
   | atom a => rfl
   | no n => rfl
   | row k' l2 =>
    have e : k' ≠ k := by rintro rfl; exact h _ (by simp) l2 rfl
    simp [parts', e]
  rw [this]
  rfl
theorem tkN_same {n : Nd} {k : Nat} (h : ∀ l, n ≠ .row k l) : tkN n (k + 2) = tkN n (k + 1) := by
 cases n with
 | atom a => rw [tkN, tkN]
 | no n => rw [tkN, tkN]
 | row k' l =>
  have e : k' ≠ k := by rintro rfl; exact h l rfl
  rw [tkN, tkN]
  by_cases h1 : k' + 1 < k + 1
  ·rw [if_pos h1, if_pos (by omega)]
  ·rw [if_neg h1, if_neg (by omega)]
theorem dep_same {n : Nd} {k : Nat} (h : ∀ l, n ≠ .row k l) : dep n (k + 2) = dep n (k + 1) := by
 cases n with
 | atom a => rw [dep, dep]
 | no n => rw [dep, dep]
 | row k' l =>
  have e : k' ≠ k := by rintro rfl; exact h l rfl
  rw [dep, dep]
  by_cases h1 : k' + 1 < k + 1
  ·rw [if_pos h1, if_pos (by omega)]
  ·rw [if_neg h1, if_neg (by omega)]
theorem again_of {n : Nd} (h : NF n) : ∀ (k d : Nat), k ≤ 2 → d + dep n (k + 1) ≤ 40 → ∀ rest, Stop k rest → Again n k d (tkN n (k + 1)) rest := by
 have low : ∀ {n : Nd} {d : Nat}, (∀ l k, n ≠ .row k l) → (∀ wi, tkN n wi = tkN n 3) → (∀ rest, Again n 2 d (tkN n 3) rest) → ∀ k, k ≤ 2 → ∀ rest, Stop k rest → Again n k d (tkN n (k + 1)) rest := fun {n d} hr ht h2 k hk rest hs => by
  rw [ht]
  have h1 : ∀ rest, Stop 1 rest → Again n 1 d (tkN n 3) rest := fun rest hs => (h2 rest).lift (by omega) hs (fun l => hr l 1)
  rcases (show k = 0 ∨ k = 1 ∨ k = 2 by omega) with rfl | rfl | rfl
  ·exact (h1 rest (fun j h1 h2 => hs j (by omega) h2)).lift (by omega) hs (fun l => hr l 0)
  ·exact h1 rest hs
  ·exact h2 rest
 induction h with
 | @atom a h =>
  intro k d hk hd rest hs
  refine low (fun l k e => by cases e) (fun wi => by rw [tkN, tkN]) (fun rest => ?_) k hk rest hs
  refine ⟨[.atom a], ?_, rfl⟩
  rw [tkN]
  exact P.leaf (d := d) (L := [leafT a] ++ rest) (a := a) ⟨h, rfl⟩
 | @no n h ih =>
  intro k d hk hd rest hs
  rw [dep] at hd
  refine low (fun l k e => by cases e) (fun wi => by rw [tkN, tkN]) (fun rest => ?_) k hk rest hs
  obtain ⟨ns, h1, h2⟩ := ih 2 d (by omega) hd rest (fun j h1 h2 => by omega)
  rw [tkN]
  refine ⟨[.no (nodeOf 2 ns)], ?_, by rw [h2]; rfl⟩
  exact P.no (L := notW :: tkN n 3 ++ rest) rfl h1
 | @row k' l hk' h hf hl ih =>
  have core : ∀ (d : Nat), d + depL l k' ≤ 40 → ∀ rest, Stop k' rest → Again (.row k' l) k' d (tkL l k') rest := fun d hd rest hs => by
   refine ⟨l, ?_, ?_⟩
   ·cases l with
    | nil => simp at hl
    | cons n l =>
     rw [tkL, List.append_assoc]
     refine tkM_go hk' l n rest (fun m hm r hr => ?_) hs
     have h1 := depL_mem (k := k') hm
     have h2 := dep_same (hf m hm)
     have := ih m hm (k' + 1) d (by omega) (by rw [show k' + 1 + 1 = k' + 2 by omega, h2]; omega) r hr
     rw [show k' + 1 + 1 = k' + 2 by omega, tkN_same (hf m hm)] at this
     exact this
   ·unfold nodeOf
    rw [if_pos hk', flat_self hf]
    match l, hl with
    | a :: b :: r, _ => rfl
  have core0 : ∀ (d : Nat), d + depL l k' ≤ 40 → ∀ rest, Stop 0 rest → Again (.row k' l) 0 d (tkL l k') rest := fun d hd rest hs => by
   rcases (show k' = 0 ∨ k' = 1 by omega) with rfl | rfl
   ·exact core d hd rest hs
   ·exact (core d hd rest (fun j h1 h2 => hs j (by omega) h2)).lift (by omega) hs (fun l e => by injection e with e _; omega)
  have core2 : ∀ (d : Nat), d + (1 + depL l k') ≤ 40 → ∀ rest, Again (.row k' l) 2 d (openW :: (tkL l k' ++ [closeW])) rest := fun d hd rest =>
   (core0 (d + 1) (by omega) _ (stop_close rest 0)).brackets (by omega)
  intro k d hk hd rest hs
  rw [dep] at hd
  rw [tkN]
  rcases (show k = 0 ∨ k = 1 ∨ k = 2 by omega) with rfl | rfl | rfl
  ·rw [if_neg (by omega)] at hd ⊢
   exact core0 d hd rest hs
  ·by_cases h1 : k' + 1 < 1 + 1
   ·rw [if_pos h1] at hd ⊢
    obtain rfl : k' = 0 := by omega
    exact (core2 d hd rest).lift (by omega) hs (fun l e => by injection e with e _; omega)
   ·rw [if_neg h1] at hd ⊢
    obtain rfl : k' = 1 := by omega
    exact core d hd rest hs
  ·rw [if_pos (by omega)] at hd ⊢
   exact core2 d hd rest
theorem stop_nil : Stop 0 [] := fun j _ h => by
 show (⟨#[]⟩ : ByteArray) ≠ wordOf j
 rcases (show j = 0 ∨ j = 1 by omega) with rfl | rfl <;> decide
theorem tkN_ne {n : Nd} (h : NF n) : ∀ wi, tkN n wi ≠ [] := by
 induction h with
 | atom h => intro wi; rw [tkN]; simp
 | no h ih => intro wi; rw [tkN]; simp
 | @row k l hk h hf hl ih =>
  intro wi
  rw [tkN]
  split
  ·simp
  ·cases l with
   | nil => simp at hl
   | cons m l =>
    rw [tkL]
    intro e
    exact ih m (by simp) _ (List.append_eq_nil_iff.1 e).1
theorem Says.own {s : ByteArray} {n : Nd} {at_ : Nat} (h : Says s (some (some n)) at_) (hs : s.size ≤ 1000) : NF n ∧ Says ⟨(ownN n 0).toArray⟩ (some (some n)) 0 ∧ (ownN n 0).length ≤ 2 * s.size := by
 cases h with
 | @good ns h h0 hp =>
  have hnf := hp.nf rfl
  have hn := nodeOf_nf (k := 0) hnf.1 hnf.2
  have h1 := (hp.len rfl (by omega)).1 (by omega)
  have h2 := nodeOf_len (k := 0) (by omega) hnf.1 hnf.2
  have h3 := ownN_mono (nodeOf 0 ns) (show 0 ≤ 0 + 1 by omega)
  have h4 : szL (tx (toks s)) ≤ s.size := by
   rw [toks_tk]
   have := tkA_sz s.data.toList []
   unfold tkS
   simpa using this
  have h5 : szL [] = 0 := rfl
  have hlen : (ownN (nodeOf 0 ns) 0).length ≤ 2 * s.size := by omega
  have hd := nodeOf_dep (k := 0) (d := 0) (by omega) hnf.1 hnf.2 (hp.deep rfl (by omega) (by omega))
  obtain ⟨ns2, hp2, e2⟩ := again_of hn 0 0 (by omega) hd [] stop_nil
  have hsize : (⟨(ownN (nodeOf 0 ns) 0).toArray⟩ : ByteArray).size = (ownN (nodeOf 0 ns) 0).length := by show (ownN (nodeOf 0 ns) 0).toArray.size = _; simp
  have htk : tkS ⟨(ownN (nodeOf 0 ns) 0).toArray⟩ = tkN (nodeOf 0 ns) 1 := by
   rw [tk_own hn]
   cases nodeOf 0 ns with
   | atom a => rw [tkN, tkN]
   | no n => rw [tkN, tkN]
   | row k l => rw [tkN, tkN, if_neg (by omega), if_neg (by omega)]
  rw [List.append_nil] at hp2
  refine ⟨hn, ?_, hlen⟩
  rw [← e2]
  have hne : toks ⟨(ownN (nodeOf 0 ns) 0).toArray⟩ ≠ [] := by
   rw [Ne, toks_nil, htk]
   exact tkN_ne hn 1
  rw [e2]
  have h7 : Says ⟨(ownN (nodeOf 0 ns) 0).toArray⟩ (some (some (nodeOf 0 ns2))) 0 := .good (by rw [hsize]; omega) hne (by rw [toks_tk, htk]; exact hp2)
  rw [e2] at h7
  exact h7
end Go.Proofs.YthdmpcnnbminlaaGreatDoor.Ru
namespace Go.Proofs.YthdmpcnnbminlaaGreatDoor.Ru
open Go.RowKit Go.Maps Go.Shelf
theorem ownB_sz (n : Nd) (wi : Nat) : (ownB n wi).size = (ownN n wi).length := by show (ownN n wi).toArray.size = _; simp
theorem ownL_mem {k : Nat} : ∀ {l : List Nd} {n : Nd}, n ∈ l → (ownN n (k + 1)).length ≤ (ownL l k).length := by
 intro l n h
 have hM : ∀ (l : List Nd), n ∈ l → (ownN n (k + 1)).length ≤ (ownM l k).length := by
  intro l
  induction l with
  | nil => intro h; cases h
  | cons m l ih =>
   intro h
   rw [ownM]
   simp only [List.length_append]
   rcases List.mem_cons.1 h with rfl | h
   ·omega
   ·have := ih h; omega
 cases l with
 | nil => cases h
 | cons m l =>
  rw [ownL]
  simp only [List.length_append]
  rcases List.mem_cons.1 h with rfl | h
  ·omega
  ·have := hM l h; omega
end Go.Proofs.YthdmpcnnbminlaaGreatDoor.Ru
namespace Go.Proofs.YthdmpcnnbminlaaGreatDoor.Ru
open Go.RowKit Go.Maps Go.Shelf
def LibAt (w : World) : Prop := ErrAt w ∧ TabAt w
theorem LibAt.below {w w' : World} (h : LibAt w) (k : Below w.heap.size w w') : LibAt w' := ⟨h.1.keep k, h.2.keep k⟩
theorem LibAt.all {w : World} (h : LibAt w) : ∀ V, Below w.heap.size w V → ErrAt V ∧ TabAt V := fun V k => h.below k
end Go.Proofs.YthdmpcnnbminlaaGreatDoor.Ru
namespace Go.Proofs.YthdmpcnnbminlaaGreatDoor.Ru
open Go.RowKit Go.Maps Go.Shelf
theorem Says.sz {s : ByteArray} {r : Option Nd} {a : Nat} (h : Says s (some r) a) : (ruleT r).size ≤ 4000 := by
 cases h with
 | empty h h0 => exact Nat.zero_le _
 | @good ns h h0 hp =>
  have hnf := hp.nf rfl
  have h1 := (hp.len rfl (by omega)).1 (by omega)
  have h2 := nodeOf_len (k := 0) (by omega) hnf.1 hnf.2
  have h3 := ownN_mono (nodeOf 0 ns) (show 0 ≤ 0 + 1 by omega)
  have h4 : szL (tx (toks s)) ≤ s.size := by
   rw [toks_tk]
   have := tkA_sz s.data.toList []
   unfold tkS
   simpa using this
  have h5 : szL [] = 0 := rfl
  have h6 : (ruleT (some (nodeOf 0 ns))).size = (ownN (nodeOf 0 ns) 0).length := ownB_sz _ 0
  rw [h6]
  omega
end Go.Proofs.YthdmpcnnbminlaaGreatDoor.Ru
namespace Go.Proofs.YthdmpcnnbminlaaGreatDoor.Ru
open Go.Shelf Go.RowKit Go.Maps
theorem _root_.Go.Proofs.YthdmpcnnbminlaaGreatDoor.Blk.at3 {w : World} {b : Nat} {t : TypeId} {x y z : Value} (h : Blk w b t #[x, y, z]) : w.cell? ⟨b, 0, none⟩ = some x ∧ w.cell? ⟨b, 1, none⟩ = some y ∧ w.cell? ⟨b, 2, none⟩ = some z ∧ w.frozen? ⟨b, 0, none⟩ = false ∧ w.frozen? ⟨b, 1, none⟩ = false ∧ w.frozen? ⟨b, 2, none⟩ = false :=
 ⟨h.cell 0, h.cell 1, h.cell 2, h.frozen 0, h.frozen 1, h.frozen 2⟩
theorem _root_.Go.Proofs.YthdmpcnnbminlaaGreatDoor.Blk.under {w w' : World} {b : Nat} {t : TypeId} {cs : Array Value} (h : Blk w b t cs) (k : Below w.heap.size w w') : Blk w' b t cs := (k.block b h.lt).trans h
theorem tparts_len (s : ByteArray) : (parts s).length = Lib.countB s ⟨#[44]⟩ + 1 := Go.Proofs.YthdmpcnnbminlaaGreatDoor.parts_len s
set_option maxHeartbeats 1000000 in
set_option maxRecDepth 100000 in
theorem sindex_any (w : World) (B : Nat) (A : Option Addr) (l : List ByteArray) (n c : Nat) (s : ByteArray) (hn : l.length = n) (hl : RowIn w B 1 A n (l.map .string)) (hb : n ≤ 1000000) :
  Calls Tryz.prog 107 #[.slice A n c, .string s] w fun e w' => ∃ z : Int, e = .returned (.int .i64 z) ∧ (decide (0 ≤ z) = memB s l) ∧ w = w' := by
 have HN := zh hn
 have HL := zh hl
 clear hn hl
 go_enter Tryz.func107, Tryz.ntmps107
 go_wp2_with fail
 go_loopw [8] (fun i wr => ∃ k : Nat, k ≤ n ∧ i = .int .i64 k ∧ Hid (∀ j t, j < k → l[j]? = some t → t ≠ s) ∧ wr = w) (fun i _ => n - (intOf i).toNat)
 case atStart => exact ⟨0, Nat.zero_le _, rfl, zh (fun j t hj => by omega), rfl⟩
 case round =>
  obtain ⟨k, hk, rfl, hok, rfl⟩ := hrel
  by_cases hlt : k < n
  ·obtain ⟨t, ht⟩ : ∃ t, l[k]? = some t := ⟨l[k]'(by rw [HN.out]; exact hlt), List.getElem?_eq_getElem _⟩
   obtain ⟨g, o, rfl, _, hc⟩ := HL.out.at (by omega)
   have e0 : wr.cell? ⟨g, o + k, none⟩ = some (.string t) := hc k _ (by simp [ht])
   have HTK := zh ht
   have hk8 : (k : Int) < (n : Int) := by omega
   have hk9 : (0 : Int) ≤ (k : Int) := by omega
   clear ht hc
   by_cases he : t = s
   ·have HE : Hid (memB s l = true) := zh ((memB_iff _ _).2 (by rw [← he]; exact List.mem_of_getElem? HTK.out))
    have q1 : (s.toList == t.toList) = true := (beq_list s t).2 he.symm
    clear he
    go_wp2_with fail
    go_ret
    exact ⟨(k : Int), rfl, by rw [HE.out]; exact decide_eq_true hk9, rfl⟩
   ·have HE := zh he
    have q1 : (s.toList == t.toList) = false := Bool.eq_false_iff.2 (fun e => he ((beq_list s t).1 e).symm)
    clear he
    go_wp2_with fail
    go_roundw
    case rel =>
     refine ⟨k + 1, by omega, by go_num, zh (fun j u hj hu => ?_), by trivial⟩
     by_cases e : j = k
     ·subst e; rw [HTK.out] at hu; cases hu; exact HE.out
     ·exact hok.out j u (by omega) hu
    case measure => simp [intOf]; omega
  ·have HF : Hid (memB s l = false) := zh (by
    cases hm : memB s l
    ·rfl
    ·obtain ⟨j, hj⟩ := List.mem_iff_getElem?.1 ((memB_iff _ _).1 hm)
     have := (List.getElem?_eq_some_iff.1 hj).1
     rw [HN.out] at this
     exact absurd rfl (hok.out j s (by omega) hj))
   go_wp2_with fail
   go_ret
   exact ⟨-1, rfl, by rw [HF.out]; rfl, rfl⟩
theorem contains_any (w : World) (B : Nat) (A : Option Addr) (l : List ByteArray) (n c : Nat) (s : ByteArray) (hn : l.length = n) (hl : RowIn w B 1 A n (l.map .string)) (hb : n ≤ 1000000) :
  Calls Tryz.prog 60 #[.slice A n c, .string s] w fun e w' => e = .returned (.bool (memB s l)) ∧ w = w' := by
 have HI := zh (sindex_any w B A l n c s hn hl hb)
 clear hn hl
 go_enter Tryz.func60, Tryz.ntmps60
 go_wp2_with fail
 refine HI.out.mono ?_
 rintro e w2 ⟨z, rfl, hz, rfl⟩
 have HZ := zh hz
 clear hz HI
 go_wp2_with fail
 go_ret
 exact ⟨ret_bool HZ.out, rfl⟩
end Go.Proofs.YthdmpcnnbminlaaGreatDoor.Ru

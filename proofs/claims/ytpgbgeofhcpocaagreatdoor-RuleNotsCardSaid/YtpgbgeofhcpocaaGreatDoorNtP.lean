/- RuleNots: what stands in brackets is parsed as it is without; plain. -/
import Derived.Test.YtpgbgeofhcpocaaGreatDoorRuAw
namespace Go.Proofs.YtpgbgeofhcpocaaGreatDoor
open Go.RowKit Go.Maps Go.Shelf
set_option linter.unusedVariables false

theorem hd_app {L R : List ByteArray} (h : hd L ≠ ⟨#[]⟩) : hd (L ++ R) = hd L := by
  cases L with
  | nil => exact absurd rfl h
  | cons a r => rfl
theorem tail_app2 {L R : List ByteArray} (h : hd L ≠ ⟨#[]⟩) : (L ++ R).tail = L.tail ++ R := by
  cases L with
  | nil => exact absurd rfl h
  | cons a r => rfl
theorem wordk_ne {k : Nat} (hk : k < 2) : wordOf k ≠ ⟨#[]⟩ := by
  rcases (show k = 0 ∨ k = 1 by omega) with rfl | rfl <;> decide
/-- One bracket deeper, with more behind: it goes wrong, or all is as ahead. -/
theorem P.ext {k d : Nat} {L L1 : List ByteArray} {ok : Bool} {ns : List Nd} (h : P k d L ok L1 ns) : ok = true → ∀ R, ∃ ok' L1' ns', P k (d + 1) (L ++ closeW :: R) ok' L1' ns' ∧ (ok' = true → L1' = L1 ++ closeW :: R ∧ ns' = ns) := by
  induction h with
  | @rlast k d L L1 ok ns hk h hn ih =>
    intro ho R
    subst ho
    obtain ⟨ok', L1', ns', hp, he⟩ := ih rfl R
    cases ok' with
    | false => exact ⟨false, L1', _, .rlast hk hp (Or.inl rfl), fun h => by cases h⟩
    | true =>
      obtain ⟨rfl, rfl⟩ := he rfl
      refine ⟨true, _, _, .rlast hk hp (Or.inr ?_), fun _ => ⟨rfl, rfl⟩⟩
      rcases hn with hn | hn
      · cases hn
      · cases L1 with
        | nil => show closeW ≠ wordOf k; rcases (show k = 0 ∨ k = 1 by omega) with rfl | rfl <;> decide
        | cons a r => exact hn
  | @rmore k d L L1 L2 ok ns ns2 hk h hw h2 ih ih2 =>
    intro ho R
    subst ho
    obtain ⟨ok', L1', ns', hp, he⟩ := ih rfl R
    cases ok' with
    | false => exact ⟨false, L1', _, .rlast hk hp (Or.inl rfl), fun h => by cases h⟩
    | true =>
      obtain ⟨rfl, rfl⟩ := he rfl
      have hne : hd L1 ≠ ⟨#[]⟩ := by rw [hw]; exact wordk_ne hk
      obtain ⟨ok2, L2', ns2', hp2, he2⟩ := ih2 rfl R
      rw [← tail_app2 hne] at hp2
      refine ⟨ok2, L2', _, .rmore hk hp (by rw [hd_app hne]; exact hw) hp2, fun e => ?_⟩
      obtain ⟨rfl, rfl⟩ := he2 e
      exact ⟨rfl, rfl⟩
  | @no d L L1 ok ns hw h ih =>
    intro ho R
    subst ho
    have hne : hd L ≠ ⟨#[]⟩ := by rw [hw]; decide
    obtain ⟨ok', L1', ns', hp, he⟩ := ih rfl R
    rw [← tail_app2 hne] at hp
    refine ⟨ok', L1', _, .no (by rw [hd_app hne]; exact hw) hp, fun e => ?_⟩
    obtain ⟨rfl, rfl⟩ := he e
    exact ⟨rfl, rfl⟩
  | @open_ d L L1 ns hw hd' h hc ih =>
    intro _ R
    have hne : hd L ≠ ⟨#[]⟩ := by rw [hw]; decide
    by_cases hdd : d + 1 < 40
    · obtain ⟨ok', L1', ns', hp, he⟩ := ih rfl R
      rw [← tail_app2 hne] at hp
      cases ok' with
      | false => exact ⟨false, L1', [], .openBad (by rw [hd_app hne]; exact hw) hdd hp (Or.inl rfl), fun h => by cases h⟩
      | true =>
        obtain ⟨rfl, rfl⟩ := he rfl
        have hne1 : hd L1 ≠ ⟨#[]⟩ := by rw [hc]; decide
        exact ⟨true, _, _, .open_ (by rw [hd_app hne]; exact hw) hdd hp (by rw [hd_app hne1]; exact hc), fun _ => ⟨tail_app2 hne1, rfl⟩⟩
    · exact ⟨false, _, [], .bad (by rw [hd_app hne, hw]; decide) (fun h => hdd h.2) (fun a => leaf_no (Or.inr (Or.inl (by rw [hd_app hne]; exact hw))) a), fun h => by cases h⟩
  | openBad hw hd' h hc ih => intro ho; cases ho
  | @leaf d L a h =>
    intro _ R
    have hne : hd L ≠ ⟨#[]⟩ := fun e => leaf_no (Or.inr (Or.inr (Or.inr (Or.inr (Or.inr e))))) a h
    exact ⟨true, _, _, .leaf (by rw [hd_app hne]; exact h), fun _ => ⟨tail_app2 hne, rfl⟩⟩
  | bad h1 h2 h3 => intro ho; cases ho
/-- A rule, and its tokens. -/
def BoxT (ra : Option Nd) (T : List ByteArray) : Prop := (ra = none ∧ T = []) ∨ ∃ ns, P 0 0 T true [] ns ∧ ra = some (nodeOf 0 ns)
theorem Says.box {s : ByteArray} {ra : Option Nd} {a : Nat} (h : Says s (some ra) a) : BoxT ra (tkS s) := by
  cases h with
  | empty h h0 => exact Or.inl ⟨rfl, toks_nil.1 h0⟩
  | good h h0 hp => exact Or.inr ⟨_, by rw [← toks_tk]; exact hp, rfl⟩
theorem close_bad (d : Nat) (R : List ByteArray) : P 2 d (closeW :: R) false (closeW :: R) [] := .bad (by show closeW ≠ notW; decide) (fun h => absurd (show closeW = openW from h.1) (by decide)) (fun a => leaf_no (Or.inr (Or.inr (Or.inl rfl))) a)
theorem BoxT.go {ra : Option Nd} {T : List ByteArray} (h : BoxT ra T) (R : List ByteArray) : ∃ ok L1 x, P 2 0 (openW :: (T ++ closeW :: R)) ok L1 x ∧ (ok = true → L1 = R ∧ ∃ n, ra = some n ∧ x = [n]) := by
  rcases h with ⟨rfl, rfl⟩ | ⟨ns, hp, rfl⟩
  · have h1 := P.rlast (k := 1) (by omega) (close_bad 1 R) (Or.inl rfl)
    have h0 := P.rlast (k := 0) (by omega) h1 (Or.inl rfl)
    exact ⟨false, _, [], .openBad (L := openW :: ([] ++ closeW :: R)) rfl (by omega) h0 (Or.inl rfl), fun h => by cases h⟩
  · obtain ⟨ok', L1', ns', hp', he⟩ := hp.ext rfl R
    cases ok' with
    | false => exact ⟨false, _, [], .openBad (L := openW :: (T ++ closeW :: R)) rfl (by omega) hp' (Or.inl rfl), fun h => by cases h⟩
    | true =>
      obtain ⟨rfl, rfl⟩ := he rfl
      exact ⟨true, _, _, .open_ (L := openW :: (T ++ closeW :: R)) rfl (by omega) hp' rfl, fun _ => ⟨rfl, _, rfl, rfl⟩⟩
theorem stop_end {k : Nat} (hk : k < 2) : hd [] ≠ wordOf k := fun e => wordk_ne hk e.symm
theorem nots_1 {ra : Option Nd} {T : List ByteArray} (h : BoxT ra T) {ns : List Nd} (hp : P 0 0 (notW :: openW :: (T ++ [closeW])) true [] ns) : ∃ n, ra = some n ∧ nodeOf 0 ns = .no n := by
  obtain ⟨ok, L1, x, hp2, he⟩ := h.go []
  have h2 : P 2 0 (notW :: openW :: (T ++ [closeW])) ok L1 [.no (nodeOf 2 x)] := .no (L := notW :: openW :: (T ++ [closeW])) rfl hp2
  cases ok with
  | false =>
    have h0 := P.rlast (k := 0) (by omega) (P.rlast (k := 1) (by omega) h2 (Or.inl rfl)) (Or.inl rfl)
    exact absurd (h0.det hp).1 (by decide)
  | true =>
    obtain ⟨rfl, n, rfl, rfl⟩ := he rfl
    have h0 := P.rlast (k := 0) (by omega) (P.rlast (k := 1) (by omega) h2 (Or.inr (stop_end (by omega)))) (Or.inr (stop_end (by omega)))
    obtain ⟨_, _, e⟩ := h0.det hp
    rw [← e rfl]
    exact ⟨n, rfl, rfl⟩
theorem nots_2 {ra rb : Option Nd} {T U : List ByteArray} (h : BoxT ra T) (h' : BoxT rb U) {ns : List Nd} (hp : P 0 0 (openW :: (T ++ closeW :: andW :: openW :: (U ++ [closeW]))) true [] ns) : ∃ n m, ra = some n ∧ rb = some m ∧ nodeOf 0 ns = nodeOf 0 [nodeOf 1 [n, m]] := by
  obtain ⟨ok, L1, x, hp2, he⟩ := h.go (andW :: openW :: (U ++ [closeW]))
  obtain ⟨ok', L2, y, hp3, he'⟩ := h'.go []
  cases ok with
  | false =>
    have h0 := P.rlast (k := 0) (by omega) (P.rlast (k := 1) (by omega) hp2 (Or.inl rfl)) (Or.inl rfl)
    exact absurd (h0.det hp).1 (by decide)
  | true =>
    obtain ⟨rfl, n, rfl, rfl⟩ := he rfl
    cases ok' with
    | false =>
      have h1 := P.rlast (k := 1) (by omega) hp3 (Or.inl rfl)
      have h0 := P.rlast (k := 0) (by omega) (P.rmore (k := 1) (L1 := andW :: openW :: (U ++ [closeW])) (by omega) hp2 rfl h1) (Or.inl rfl)
      exact absurd (h0.det hp).1 (by decide)
    | true =>
      obtain ⟨rfl, m, rfl, rfl⟩ := he' rfl
      have h1 := P.rlast (k := 1) (by omega) hp3 (Or.inr (stop_end (by omega)))
      have h0 := P.rlast (k := 0) (by omega) (P.rmore (k := 1) (L1 := andW :: openW :: (U ++ [closeW])) (by omega) hp2 rfl h1) (Or.inr (stop_end (by omega)))
      obtain ⟨_, _, e⟩ := h0.det hp
      rw [← e rfl]
      exact ⟨n, m, rfl, rfl, rfl⟩
theorem nots_3 {ra rb : Option Nd} {T U : List ByteArray} (h : BoxT ra T) (h' : BoxT rb U) {ns : List Nd} (hp : P 0 0 (openW :: (T ++ closeW :: orW :: openW :: (U ++ [closeW]))) true [] ns) : ∃ n m, ra = some n ∧ rb = some m ∧ nodeOf 0 ns = nodeOf 0 [nodeOf 1 [n], nodeOf 1 [m]] := by
  obtain ⟨ok, L1, x, hp2, he⟩ := h.go (orW :: openW :: (U ++ [closeW]))
  obtain ⟨ok', L2, y, hp3, he'⟩ := h'.go []
  cases ok with
  | false =>
    have h0 := P.rlast (k := 0) (by omega) (P.rlast (k := 1) (by omega) hp2 (Or.inl rfl)) (Or.inl rfl)
    exact absurd (h0.det hp).1 (by decide)
  | true =>
    obtain ⟨rfl, n, rfl, rfl⟩ := he rfl
    have h1 := P.rlast (k := 1) (by omega) hp2 (Or.inr (by show orW ≠ andW; decide))
    cases ok' with
    | false =>
      have h2 := P.rlast (k := 0) (by omega) (P.rlast (k := 1) (by omega) hp3 (Or.inl rfl)) (Or.inl rfl)
      have h0 := P.rmore (k := 0) (L1 := orW :: openW :: (U ++ [closeW])) (by omega) h1 rfl h2
      exact absurd (h0.det hp).1 (by decide)
    | true =>
      obtain ⟨rfl, m, rfl, rfl⟩ := he' rfl
      have h2 := P.rlast (k := 0) (by omega) (P.rlast (k := 1) (by omega) hp3 (Or.inr (stop_end (by omega)))) (Or.inr (stop_end (by omega)))
      have h0 := P.rmore (k := 0) (L1 := orW :: openW :: (U ++ [closeW])) (by omega) h1 rfl h2
      obtain ⟨_, _, e⟩ := h0.det hp
      rw [← e rfl]
      exact ⟨n, m, rfl, rfl, rfl⟩
theorem someN_all (f : Fx) : ∀ l : List Nd, someN f l = l.any (holdsN f)
  | [] => by rw [someN]; rfl
  | n :: l => by rw [someN, someN_all f l, List.any_cons]
theorem someNot_all (f : Fx) : ∀ l : List Nd, someNot f l = !l.all (holdsN f)
  | [] => by rw [someNot]; rfl
  | n :: l => by rw [someNot, someNot_all f l, List.all_cons, Bool.not_and]
theorem row_or (f : Fx) (l : List Nd) : holdsN f (.row 0 l) = l.any (holdsN f) := by rw [holdsN, if_pos rfl, someN_all]
theorem row_and (f : Fx) (l : List Nd) : holdsN f (.row 1 l) = l.all (holdsN f) := by rw [holdsN, if_neg (by omega), someNot_all, Bool.not_not]
theorem parts_or (f : Fx) (n : Nd) : (parts' 0 n).any (holdsN f) = holdsN f n := by
  cases n with
  | atom a => simp [parts']
  | no n => simp [parts']
  | row k l =>
    by_cases h : k = 0
    · subst h; rw [row_or]; simp [parts']
    · simp [parts', h]
theorem parts_and (f : Fx) (n : Nd) : (parts' 1 n).all (holdsN f) = holdsN f n := by
  cases n with
  | atom a => simp [parts']
  | no n => simp [parts']
  | row k l =>
    by_cases h : k = 1
    · subst h; rw [row_and]; simp [parts']
    · simp [parts', h]
theorem flat_or (f : Fx) : ∀ ns : List Nd, (ns.flatMap (parts' 0)).any (holdsN f) = ns.any (holdsN f)
  | [] => rfl
  | n :: ns => by rw [List.flatMap_cons, List.any_append, parts_or, flat_or f ns, List.any_cons]
theorem flat_and (f : Fx) : ∀ ns : List Nd, (ns.flatMap (parts' 1)).all (holdsN f) = ns.all (holdsN f)
  | [] => rfl
  | n :: ns => by rw [List.flatMap_cons, List.all_append, parts_and, flat_and f ns, List.all_cons]
theorem node_or (f : Fx) (ns : List Nd) : holdsN f (nodeOf 0 ns) = ns.any (holdsN f) := by
  unfold nodeOf
  rw [if_pos (by omega), ← flat_or]
  match ns.flatMap (parts' 0) with
  | [] => exact row_or f _
  | [n] => simp [mkRow]
  | a :: b :: r => exact row_or f _
theorem node_and (f : Fx) (ns : List Nd) : holdsN f (nodeOf 1 ns) = ns.all (holdsN f) := by
  unfold nodeOf
  rw [if_pos (by omega), ← flat_and]
  match ns.flatMap (parts' 1) with
  | [] => exact row_and f _
  | [n] => simp [mkRow]
  | a :: b :: r => exact row_and f _
theorem tk_close_end (l : List UInt8) : tkA [] (l ++ [41]) = tkA [] l ++ [closeW] := by
  rw [tkA_ends rfl (Or.inr ⟨41, [], rfl, rfl⟩), tkA_sg rfl]
  rfl
theorem tk_n1 {s t : ByteArray} (h : t.data.toList = [110, 111, 116, 32, 40] ++ (s.data.toList ++ [41])) : tkS t = notW :: openW :: (tkS s ++ [closeW]) := by
  unfold tkS
  rw [h, ← tk_close_end]
  rfl
theorem tk_n2 {s t u : ByteArray} (h : u.data.toList = [40] ++ (s.data.toList ++ ([41, 32, 97, 110, 100, 32, 40] ++ (t.data.toList ++ [41])))) : tkS u = openW :: (tkS s ++ closeW :: andW :: openW :: (tkS t ++ [closeW])) := by
  unfold tkS
  rw [h, ← tk_close_end]
  have e : ∀ X, tkA [] ([40] ++ X) = openW :: tkA [] X := fun X => rfl
  rw [e]
  show openW :: tkA [] (s.data.toList ++ 41 :: ([32, 97, 110, 100, 32, 40] ++ (t.data.toList ++ [41]))) = _
  rw [tkA_ends rfl (Or.inr ⟨41, [32, 97, 110, 100, 32, 40] ++ (t.data.toList ++ [41]), rfl, rfl⟩)]
  rfl
theorem tk_n3 {s t u : ByteArray} (h : u.data.toList = [40] ++ (s.data.toList ++ ([41, 111, 114, 40] ++ (t.data.toList ++ [41])))) : tkS u = openW :: (tkS s ++ closeW :: orW :: openW :: (tkS t ++ [closeW])) := by
  unfold tkS
  rw [h, ← tk_close_end]
  have e : ∀ X, tkA [] ([40] ++ X) = openW :: tkA [] X := fun X => rfl
  rw [e]
  show openW :: tkA [] (s.data.toList ++ 41 :: ([111, 114, 40] ++ (t.data.toList ++ [41]))) = _
  rw [tkA_ends rfl (Or.inr ⟨41, [111, 114, 40] ++ (t.data.toList ++ [41]), rfl, rfl⟩)]
  rfl
theorem nots_one {s u : ByteArray} {ra r : Option Nd} {a b : Nat} (h : Says s (some ra) a) (ht : u.data.toList = [110, 111, 116, 32, 40] ++ (s.data.toList ++ [41])) (hr : Says u (some r) b) (f : Fx) : ∃ n m, ra = some m ∧ r = some n ∧ holdsN f n = !holdsN f m := by
  cases hr with
  | empty _ h0 => have := toks_nil.1 h0; rw [tk_n1 ht] at this; cases this
  | good _ _ hp =>
    rw [toks_tk, tk_n1 ht] at hp
    obtain ⟨n, rfl, e⟩ := nots_1 h.box hp
    exact ⟨_, n, rfl, rfl, by rw [e, holdsN]⟩
theorem nots_two {s t u : ByteArray} {ra rb r : Option Nd} {a b c : Nat} (h : Says s (some ra) a) (h' : Says t (some rb) b) (ht : u.data.toList = [40] ++ (s.data.toList ++ ([41, 32, 97, 110, 100, 32, 40] ++ (t.data.toList ++ [41])))) (hr : Says u (some r) c) (f : Fx) : ∃ n m q, ra = some m ∧ rb = some q ∧ r = some n ∧ holdsN f n = (holdsN f m && holdsN f q) := by
  cases hr with
  | empty _ h0 => have := toks_nil.1 h0; rw [tk_n2 ht] at this; cases this
  | good _ _ hp =>
    rw [toks_tk, tk_n2 ht] at hp
    obtain ⟨n, m, rfl, rfl, e⟩ := nots_2 h.box h'.box hp
    exact ⟨_, n, m, rfl, rfl, rfl, by rw [e, node_or, List.any_cons, node_and]; simp⟩
theorem nots_three {s t u : ByteArray} {ra rb r : Option Nd} {a b c : Nat} (h : Says s (some ra) a) (h' : Says t (some rb) b) (ht : u.data.toList = [40] ++ (s.data.toList ++ ([41, 111, 114, 40] ++ (t.data.toList ++ [41])))) (hr : Says u (some r) c) (f : Fx) : ∃ n m q, ra = some m ∧ rb = some q ∧ r = some n ∧ holdsN f n = (holdsN f m || holdsN f q) := by
  cases hr with
  | empty _ h0 => have := toks_nil.1 h0; rw [tk_n3 ht] at this; cases this
  | good _ _ hp =>
    rw [toks_tk, tk_n3 ht] at hp
    obtain ⟨n, m, rfl, rfl, e⟩ := nots_3 h.box h'.box hp
    exact ⟨_, n, m, rfl, rfl, rfl, by rw [e, node_or, List.any_cons, List.any_cons, node_and, node_and]; simp⟩
end Go.Proofs.YtpgbgeofhcpocaaGreatDoor

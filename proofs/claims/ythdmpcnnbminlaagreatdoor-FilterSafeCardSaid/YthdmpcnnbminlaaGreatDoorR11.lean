/- A part of the joined base. -/
import Derived.Test.YthdmpcnnbminlaaGreatDoorR01
import Derived.Test.YthdmpcnnbminlaaGreatDoorR10
import Derived.Test.YthdmpcnnbminlaaGreatDoorR04
set_option linter.unusedVariables false
set_option maxHeartbeats 8000000
set_option maxRecDepth 100000
namespace Go.Proofs.YthdmpcnnbminlaaGreatDoor
open Go.Shelf Go.RowKit Go.Maps Go.Sort
open Classical in
noncomputable def okEv (v : Value) : Bool := decide (∃ e : Ev, v = evA e)
open Classical in
theorem okEv_mk (e : Ev) : okEv (evA e) = true := by
 unfold okEv
 exact decide_eq_true ⟨e, rfl⟩
open Classical in
theorem mk_evv {v : Value} (h : okEv v = true) : ∃ e : Ev, v = evA e := by
 unfold okEv at h
 exact of_decide_eq_true h
theorem evA_inj {a b : Ev} (h : evA a = evA b) : a = b := by
 cases a
 cases b
 unfold evA at h
 simp only [Value.agg.injEq, Array.mk.injEq, List.cons.injEq, Value.string.injEq, Value.int.injEq, true_and, and_true] at h
 obtain ⟨h1, h2, h3, h4, h5, h6, h7, h8⟩ := h
 subst h1 h2 h3 h4 h5 h6 h7 h8
 rfl
def IdOk (e : Ev) : Prop := e.src.size ≤ maxLen ∧ InR e.num
structure LeastIs (fm : Ev → ByteArray) (l : List Ev) (M : Lit → Option Value) : Prop where
 inv : ∀ kl v, M kl = some v → ∃ e, v = evA e ∧ kl = litI e.src e.num ∧ lstG fm l e.src e.num = some e
 at_ : ∀ s n, s.size ≤ maxLen → InR n → M (litI s n) = (lstG fm l s n).map evA
section
variable {fm : Ev → ByteArray} {l : List Ev} {M : Lit → Option Value}
theorem LeastIs.nil (fm : Ev → ByteArray) : LeastIs fm [] (fun _ => none) := ⟨fun _ _ h => (by cases h), fun _ _ _ _ => rfl⟩
theorem LeastIs.set (h : LeastIs fm l M) (e : Ev) (he : IdOk e) (hb : lstV fm (lstG fm l e.src e.num) e = e) : LeastIs fm (l ++ [e]) (upd M (litI e.src e.num) (evA e)) := by
 refine ⟨fun kl v hv => ?_, fun s n hs hn => ?_⟩
 ·unfold upd at hv
  by_cases hk : kl = litI e.src e.num
  ·subst hk
   rw [WideAt.sameKey_self (by trivial), if_pos rfl] at hv
   injection hv with hv
   refine ⟨e, hv.symm, rfl, ?_⟩
   rw [lstG_snoc]
   unfold lstStep
   rw [if_pos ⟨rfl, rfl⟩, hb]
  ·rw [sameKey_ne hk, if_neg (by simp)] at hv
   obtain ⟨e', h1, h2, h3⟩ := h.inv kl v hv
   refine ⟨e', h1, h2, ?_⟩
   rw [lstG_snoc]
   unfold lstStep
   rw [if_neg (fun hh => hk (by rw [h2, hh.1, hh.2]))]
   exact h3
 ·rw [lstG_snoc]
  unfold upd lstStep
  rw [litI_same hs hn he.1 he.2]
  by_cases hk : s = e.src ∧ n = e.num
  ·rw [if_pos (by simp [hk]), if_pos hk, hb]
   rfl
  ·rw [if_neg (by simp [hk]), if_neg hk]
   exact h.at_ s n hs hn
theorem LeastIs.stay (h : LeastIs fm l M) (e : Ev) (hb : lstG fm l e.src e.num = some (lstV fm (lstG fm l e.src e.num) e)) : LeastIs fm (l ++ [e]) M := by
 have hE : lstG fm (l ++ [e]) = lstG fm l := by
  funext s n
  rw [lstG_snoc]
  unfold lstStep
  split
  ·rename_i hk
   rw [hk.1, hk.2]
   exact hb.symm
  ·rfl
 exact ⟨fun kl v hv => by rw [hE]; exact h.inv kl v hv, fun s n hs hn => by rw [hE]; exact h.at_ s n hs hn⟩
end
structure GoneIs (fm : Ev → ByteArray) (l : List Ev) (M : Lit → Option Value) (left : Lit → Bool) (S : ByteArray → Bool) : Prop where
 of : ∀ p, S p = true → goneP fm l p
 all : ∀ kl e, M kl = some (evA e) → left kl = false → e.kind = 14 → S e.person = true
section
variable {fm : Ev → ByteArray} {l : List Ev} {M : Lit → Option Value} {left : Lit → Bool} {S : ByteArray → Bool}
theorem GoneIs.start (fm : Ev → ByteArray) (l : List Ev) (M : Lit → Option Value) : GoneIs fm l M (fun kl => (M kl).isSome) (fun _ => false) :=
 ⟨fun _ h => (by cases h), fun kl e h1 h2 _ => (by rw [h1] at h2; cases h2)⟩
theorem GoneIs.skip (h : GoneIs fm l M left S) {kl : Lit} {e : Ev} (hM : M kl = some (evA e)) (hk : e.kind ≠ 14) : GoneIs fm l M (fun x => left x && !x.sameKey kl) S := by
 refine ⟨h.of, fun x e' h1 h2 h3 => ?_⟩
 by_cases hx : x = kl
 ·subst hx
  rw [hM] at h1
  injection h1 with h1
  rw [← evA_inj h1] at h3
  exact absurd h3 hk
 ·rw [sameKey_ne hx] at h2
  exact h.all x e' h1 (by simpa using h2) h3
theorem GoneIs.add (hL : LeastIs fm l M) (h : GoneIs fm l M left S) {kl : Lit} {e : Ev} (hM : M kl = some (evA e)) (hk : e.kind = 14) : GoneIs fm l M (fun x => left x && !x.sameKey kl) (fun y => S y || decide (y = e.person)) := by
 refine ⟨fun p hp => ?_, fun x e' h1 h2 h3 => ?_⟩
 ·rw [Bool.or_eq_true] at hp
  rcases hp with hp | hp
  ·exact h.of p hp
  ·obtain ⟨e2, h1, _, h3⟩ := hL.inv kl _ hM
   rw [← evA_inj h1] at h3
   exact ⟨e, h3, hk, (of_decide_eq_true hp).symm⟩
 ·by_cases hx : x = kl
  ·subst hx
   rw [hM] at h1
   injection h1 with h1
   rw [← evA_inj h1]
   simp
  ·rw [sameKey_ne hx] at h2
   rw [h.all x e' h1 (by simpa using h2) h3]
   rfl
theorem GoneIs.done (hL : LeastIs fm l M) (h : GoneIs fm l M left S) (hl : ∀ kl, left kl = false) (hI : ∀ e ∈ l, IdOk e) (p : ByteArray) : S p = true ↔ goneP fm l p := by
 refine ⟨h.of p, fun hg => ?_⟩
 obtain ⟨e, h1, h2, h3⟩ := hg
 have hi := hI e (lstG_mem h1).1
 have := h.all (litI e.src e.num) e (by rw [hL.at_ _ _ hi.1 hi.2, h1]; rfl) (hl _) h2
 rwa [h3] at this
end
structure LeftIs (fm : Ev → ByteArray) (l : List Ev) (M : Lit → Option Value) (left : Lit → Bool) (acc : List Ev) : Prop where
 mem : ∀ e, e ∈ acc ↔ M (litI e.src e.num) = some (evA e) ∧ left (litI e.src e.num) = false ∧ (e.kind = 14 ∨ ¬ goneP fm l e.person)
 ids : OneIds acc
section
variable {fm : Ev → ByteArray} {l : List Ev} {M : Lit → Option Value} {left : Lit → Bool} {acc : List Ev}
theorem LeftIs.start (fm : Ev → ByteArray) (l : List Ev) (M : Lit → Option Value) : LeftIs fm l M (fun kl => (M kl).isSome) [] :=
 ⟨fun e => ⟨fun h => (by cases h), fun h => (by have h1 := h.2.1; rw [h.1] at h1; cases h1)⟩, List.Pairwise.nil⟩
theorem LeftIs.key (hL : LeastIs fm l M) {kl : Lit} {e : Ev} (hM : M kl = some (evA e)) : kl = litI e.src e.num := by
 obtain ⟨e2, h1, h2, _⟩ := hL.inv kl _ hM
 rw [evA_inj h1]
 exact h2
theorem LeftIs.skip (hL : LeastIs fm l M) (h : LeftIs fm l M left acc) {kl : Lit} {e : Ev} (hM : M kl = some (evA e)) (hk : ¬ (e.kind = 14 ∨ ¬ goneP fm l e.person)) : LeftIs fm l M (fun x => left x && !x.sameKey kl) acc := by
 refine ⟨fun e' => ?_, h.ids⟩
 rw [h.mem]
 by_cases hx : litI e'.src e'.num = kl
 ·constructor
  ·rintro ⟨h1, h2, h3⟩
   rw [hx, hM] at h1
   injection h1 with h1
   rw [← evA_inj h1] at h3
   exact absurd h3 hk
  ·rintro ⟨h1, h2, h3⟩
   rw [hx, hM] at h1
   injection h1 with h1
   rw [← evA_inj h1] at h3
   exact absurd h3 hk
 ·rw [sameKey_ne hx]
  simp
theorem LeftIs.add (hL : LeastIs fm l M) (h : LeftIs fm l M left acc) {kl : Lit} {e : Ev} (hM : M kl = some (evA e)) (hlf : left kl = true) (hk : e.kind = 14 ∨ ¬ goneP fm l e.person) : LeftIs fm l M (fun x => left x && !x.sameKey kl) (acc ++ [e]) := by
 have hkey := LeftIs.key hL hM
 refine ⟨fun e' => ?_, ?_⟩
 ·rw [List.mem_append, h.mem]
  by_cases hx : litI e'.src e'.num = kl
  ·have hs : Lit.sameKey kl kl = true := by rw [hkey]; exact WideAt.sameKey_self (by trivial)
   constructor
   ·rintro (⟨h1, h2, h3⟩ | h1)
    ·rw [hx, hlf] at h2; cases h2
    ·obtain rfl : e' = e := by simpa using h1
     exact ⟨by rw [hx]; exact hM, by rw [hx, hs]; simp, hk⟩
   ·rintro ⟨h1, _, _⟩
    rw [hx, hM] at h1
    injection h1 with h1
    exact Or.inr (by rw [evA_inj h1]; simp)
  ·rw [sameKey_ne hx]
   have hne : e' ∉ [e] := fun hm => hx (by obtain rfl : e' = e := (by simpa using hm); exact hkey.symm)
   simp only [hne, or_false]
   simp
 ·refine List.pairwise_append.2 ⟨h.ids, List.pairwise_singleton _ _, fun a ha b hb hs => ?_⟩
  obtain rfl : b = e := by simpa using hb
  have h2 := ((h.mem a).1 ha).2.1
  rw [hs.1, hs.2, ← hkey, hlf] at h2
  cases h2
theorem LeftIs.done (hL : LeastIs fm l M) (h : LeftIs fm l M left acc) (hl : ∀ kl, left kl = false) (hI : ∀ e ∈ l, IdOk e) {E : List Ev} (hp : E.Perm acc) (hs : E.Pairwise fun a b => ltOf cmpE b a = false) : AnewIs fm l E := by
 refine ⟨sorted_of hs ?_, fun e => ?_⟩
 ·have hsym : ∀ {x y : Ev}, ¬ sameId x y → ¬ sameId y x := fun hxy hyx => hxy ⟨hyx.1.symm, hyx.2.symm⟩
  exact (hp.pairwise_iff hsym).2 h.ids
 ·rw [hp.mem_iff, h.mem]
  constructor
  ·rintro ⟨h1, _, h3⟩
   obtain ⟨e2, h4, _, h5⟩ := hL.inv _ _ h1
   rw [← evA_inj h4] at h5
   exact ⟨h5, h3⟩
  ·rintro ⟨h1, h3⟩
   have hi := hI e (lstG_mem h1).1
   exact ⟨by rw [hL.at_ _ _ hi.1 hi.2, h1]; rfl, hl _, h3⟩
end
section
variable {P : Program} (w : World) {ops : Array Oper} {rest : List Oper} {o : Oper} {a : Act} {Q : Exit → Act → World → Prop}
theorem wpList_nextK {β : Type} (hg : o.guard = none) (it : Operand) (hop : o.op = Op.next it false) (k : TypeId) (K : Keyed P k) (ok : Value → Bool) (mkV : β → Value) (invV : ∀ v, ok v = true → ∃ c, v = mkV c) (b r n : Nat) (M : Lit → Option Value) (left : Lit → Bool) (cnt : Nat)
  (hit : a.eval it = .pointer (some ⟨r, 0, none⟩)) (h : MapGoes P k ok w b r n M left cnt)
  (hDone : cnt = 0 → (∀ kl, left kl = false) → wpList P ops Q rest (a.put o.dst (.tuple #[.bool false])) w)
  (hMore : ∀ (key : Value) (kl : Lit) (c : β) (w' : World) (cnt' : Nat), left kl = true → M kl = some (mkV c) → MapGoes P k ok w' b r n M (fun z => left z && !z.sameKey kl) cnt' → cnt' < cnt →
   w.grownBy w' (some r) → w'.heap.size = w.heap.size → (Instr.entry (.pointer (some ⟨r, 0, none⟩))).run P w' = .ok (.tuple #[key, mkV c]) w' → wpList P ops Q rest (a.put o.dst (.tuple #[.bool true, key, mkV c])) w') :
  wpList P ops Q (o :: rest) a w := by
 refine wpList_plain hg fun K' hK' => ?_
 unfold Oper.wp
 rcases h.next K o.type with ⟨h0, hl, hrun⟩ | ⟨key, v, kl, w', cnt', hkey, hlk, hv, hat, hrun, hrg, hlt, hgr, hsz, hen⟩
 ·simp [execOp, hop, hit, hrun, Result.andThen]
  exact hK' _ _ (hDone h0 hl)
 ·obtain ⟨c, rfl⟩ := invV v hv
  simp [execOp, hop, hit, hrun, Result.andThen]
  exact hK' _ _ (hMore key kl c w' cnt' hlk hat hrg hlt hgr hsz hen)
end
end Go.Proofs.YthdmpcnnbminlaaGreatDoor

/- FilterApart: plain. -/
import Derived.Test.YthdmpcnnbminlaaGreatDoorFlH
namespace Go.Proofs.YthdmpcnnbminlaaGreatDoor
open Ct (It St it0 st0 atP takesB catB stepSt rowOf uptoP ofN rowStep)
open Ru (Fz fzA fzX Nd holdsR)
set_option linter.unusedVariables false
theorem anew_keep {fm : Ev → ByteArray} {l E E' : List Ev} (p : ByteArray) (ho : OneIds l) (h : AnewIs fm l E) (h' : AnewIs fm (l.filter (keepB p)) E') : E' = E.filter (keepB p) := by
 have ho' : OneIds (l.filter (keepB p)) := List.Pairwise.sublist List.filter_sublist ho
 have hl : ∀ f, lstG fm l f.src f.num = some f ↔ f ∈ l := fun f => ⟨fun hf => (lstG_mem hf).1, fun hf => lstG_one ho hf⟩
 have hl' : ∀ f, lstG fm (l.filter (keepB p)) f.src f.num = some f ↔ f ∈ l.filter (keepB p) := fun f => ⟨fun hf => (lstG_mem hf).1, fun hf => lstG_one ho' hf⟩
 have hg : ∀ q, goneP fm (l.filter (keepB p)) q ↔ goneP fm l q := fun q => by
  constructor
  ·rintro ⟨f, h1, h2, h3⟩
   exact ⟨f, (hl f).2 (List.mem_filter.1 ((hl' f).1 h1)).1, h2, h3⟩
  ·rintro ⟨f, h1, h2, h3⟩
   exact ⟨f, (hl' f).2 (List.mem_filter.2 ⟨(hl f).1 h1, decide_eq_true (Or.inr (Or.inr h2))⟩), h2, h3⟩
 refine AnewIs.one h' ⟨List.Pairwise.sublist List.filter_sublist h.sorted, fun e => ?_⟩
 rw [List.mem_filter, h.mem e, hl', hl, hg, List.mem_filter]
 exact ⟨fun ⟨⟨a, b⟩, c⟩ => ⟨⟨a, c⟩, b⟩, fun ⟨⟨a, b⟩, c⟩ => ⟨⟨a, c⟩, b⟩⟩
theorem may_person {e : Ev} (h : mayB e = true) (hk : e.kind < 11) : e.person ≠ ⟨#[]⟩ := by
 have h1 := (may_parts h).2.2.2
 intro hp
 have hn : nameB (⟨#[]⟩ : ByteArray) = false := by decide
 unfold kindB at h1
 rw [hp, hn] at h1
 repeat' split at h1
 all_goals first | omega | (simp at h1)
theorem apart_facts {E : List Ev} (hok : ∀ e ∈ E, EvOk e) (p i : ByteArray) (now : Int) :
  ∃ n : Nat, fzOf (E.filter (keepB p)) p i now = { fzOf E p i now with fans := (n : Int) } ∧ n ≤ 1 ∧ (n : Int) ≤ (fzOf E p i now).fans ∧ hidP (E.filter (keepB p)) p i now = hidP E p i now := by
 obtain ⟨hit, hdo, hhid, hfol, hmut⟩ := own_asked p i now E (fun e he hc => (may_cat (hok e he).1 hc).1)
 have h2 := own_fans p i E (fun e he hk => may_person (hok e he).1 hk)
 have e1 : atP (thgs (E.filter (keepB p))) i now = atP (thgs E) i now := hit
 have e2 : doneB (rowsW (E.filter (keepB p))) p i = doneB (rowsW E) p i := hdo
 have e3 : ∀ m, decide (folO (rowsW (E.filter (keepB p))) p m = some true) = decide (folO (rowsW E) p m = some true) := hfol
 have e4 : ∀ m, decide (mutO (rowsW (E.filter (keepB p))) p m = some true) = decide (mutO (rowsW E) p m = some true) := hmut
 have e5 : (hidO (rowsW (E.filter (keepB p))) p i).getD false = (hidO (rowsW E) p i).getD false := hhid
 refine ⟨fansN (rowsW (E.filter (keepB p))) i, ?_, h2.2, Int.ofNat_le.2 h2.1, ?_⟩
 ·unfold fzOf
  rw [e1, e2, e3]
 ·unfold hidP
  rw [e1, e4, e5]
theorem why_apart {z : Fz} {n : Nat} (hz : 0 ≤ z.fans) (hid : Bool) (span : Int) (ok : Bool) : whyP { z with fans := (n : Int) } hid 0 span ok = whyP z hid 0 span ok := by
 unfold whyP
 have h1 : ¬ ((n : Int) < 0 ∧ span < z.age) := by omega
 have h2 : ¬ (z.fans < 0 ∧ span < z.age) := by omega
 simp only [h1, h2, if_false]
theorem apart_why {E : List Ev} (hok : ∀ e ∈ E, EvOk e) (p i : ByteArray) (now : Int) {c : Cfg} (h0 : c.crowd = 0) : whyF (E.filter (keepB p)) p now c none i = whyF E p now c none i := by
 obtain ⟨n, h1, _, _, h4⟩ := apart_facts hok p i now
 unfold whyF whyW
 rw [h1, h4, h0]
 exact why_apart (Int.natCast_nonneg _) _ _ _
end Go.Proofs.YthdmpcnnbminlaaGreatDoor

/- The document of rules: a rule's own text. -/
import Derived.Test.YtpgbgeofhcpocaaGreatDoorDrQ
namespace Go.Proofs.YtpgbgeofhcpocaaGreatDoor
open Go.RowKit Go.Maps Go.Shelf
set_option linter.unusedVariables false

theorem ownB_eq (n : Nd) (wi : Nat) : ownB n wi = ⟨(ownN n wi).toArray⟩ := rfl
theorem ownM_snoc (k : Nat) (n : Nd) : ∀ l : List Nd, ownM (l ++ [n]) k = ownM l k ++ (sepW k ++ ownN n (k + 1))
  | [] => by simp [ownM]
  | m :: l => by rw [List.cons_append, ownM, ownM, ownM_snoc k n l]; simp
theorem ownL_snoc (k : Nat) (n : Nd) (l : List Nd) : ownL (l ++ [n]) k = ownL l k ++ ((if l = [] then [] else sepW k) ++ ownN n (k + 1)) := by
  cases l with
  | nil => simp [ownL, ownM]
  | cons m l =>
    rw [List.cons_append, ownL, ownL, ownM_snoc]
    simp
def ownT (k : Nat) (l : List Nd) : ByteArray := ⟨(ownL l k).toArray⟩
theorem ownT_first {k : Nat} {n : Nd} : ownT k [n] = ownB n (k + 1) := by
  unfold ownT ownB
  rw [show [n] = [] ++ [n] from rfl, ownL_snoc]
  simp [ownL]
theorem ownT_next {k : Nat} {n : Nd} {l : List Nd} (h : l ≠ []) : ownT k (l ++ [n]) = ownT k l ++ sepB k ++ ownB n (k + 1) := by
  refine ba_ext ?_
  rw [ba_app, ba_app]
  unfold ownT sepB ownB
  rw [ownL_snoc, if_neg h]
  simp
theorem ownL_take (k : Nat) (l : List Nd) (i : Nat) : (ownL (l.take i) k).length ≤ (ownL l k).length := by
  have h : ∀ (l r : List Nd), (ownL l k).length ≤ (ownL (l ++ r) k).length := fun l r => by
    have hM : ∀ (l r : List Nd), (ownM l k).length ≤ (ownM (l ++ r) k).length := by
      intro l
      induction l with
      | nil => intro r; simp [ownM]
      | cons m l ih => intro r; rw [List.cons_append, ownM, ownM]; have := ih r; simp only [List.length_append]; omega
    cases l with
    | nil => simp [ownL]
    | cons m l => rw [List.cons_append, ownL, ownL]; have := hM l r; simp only [List.length_append]; omega
  have := h (l.take i) (l.drop i)
  rwa [List.take_append_drop] at this
theorem ownB_sz (n : Nd) (wi : Nat) : (ownB n wi).size = (ownN n wi).length := by show (ownN n wi).toArray.size = _; simp
theorem ownT_sz (k : Nat) (l : List Nd) : (ownT k l).size = (ownL l k).length := by show (ownL l k).toArray.size = _; simp
theorem ownL_mem {k : Nat} : ∀ {l : List Nd} {n : Nd}, n ∈ l → (ownN n (k + 1)).length ≤ (ownL l k).length := by
  intro l n h
  have hM : ∀ (l : List Nd), n ∈ l → (ownN n (k + 1)).length ≤ (ownM l k).length := by
    intro l
    induction l with
    | nil => intro h; cases h
    | cons m l ih =>
      intro h
      rw [ownM]
      simp only [List.length_append]
      rcases List.mem_cons.1 h with rfl | h
      · omega
      · have := ih h; omega
  cases l with
  | nil => cases h
  | cons m l =>
    rw [ownL]
    simp only [List.length_append]
    rcases List.mem_cons.1 h with rfl | h
    · omega
    · have := hM l h; omega





def ruleB (r : Option Nd) : ByteArray := match r with | none => ⟨#[]⟩ | some n => ownB n 0
end Go.Proofs.YtpgbgeofhcpocaaGreatDoor

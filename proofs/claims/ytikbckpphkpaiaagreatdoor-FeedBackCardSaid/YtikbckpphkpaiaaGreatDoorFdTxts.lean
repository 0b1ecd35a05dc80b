/- Texts, plain: what stands between signs; numbers in digits; the line of a row. The document's Digits. The document's Line. The document's Print. -/
import Derived.Test.YtikbckpphkpaiaaGreatDoorFdRef
import Derived.Lib.Join
import Derived.Lib.ItoaLen
import Derived.Lib.AtoiTie
namespace Go.Proofs.YtikbckpphkpaiaaGreatDoor
/-! FdTxt -/
open Go.Shelf Go.RowKit Go.Maps
set_option linter.unusedVariables false

/-! ### numbers -/
def itoaB (n : Int) : ByteArray := ⟨(Lib.itoa n).toArray⟩
def digB (n : Nat) : ByteArray := ⟨(Lib.decDigits n).toArray⟩
theorem itoa_dig (n : Nat) : itoaB (n : Int) = digB n := by unfold itoaB digB; rw [Lib.itoa_nonneg]
theorem dig_data (n : Nat) : (digB n).data.toList = Lib.decDigits n := by unfold digB; simp
theorem itoaB_data (n : Int) : (itoaB n).data.toList = Lib.itoa n := by unfold itoaB; simp
theorem itoaB_size {n : Int} (h0 : -9223372036854775808 ≤ n) (h1 : n ≤ 9223372036854775807) : (itoaB n).size ≤ 21 := by
  have := Lib.itoa_length_le n h0 h1
  show (Lib.itoa n).toArray.size ≤ 21
  simpa using this
/-- What stands behind so far: the digits of m are those of n, and s. -/
def DigTo (m n : Nat) (s : ByteArray) : Prop := digB m = digB n ++ s
theorem DigTo.start (m : Nat) : DigTo m m ⟨#[]⟩ := by
  unfold DigTo
  apply ba_eq
  simp [ByteArray.data_append]
theorem DigTo.next {m n : Nat} {s : ByteArray} (h : DigTo m n s) (hn : 10 ≤ n) : DigTo m (n / 10) (⟨#[UInt8.ofNat (48 + n % 10)]⟩ ++ s) := by
  unfold DigTo at h ⊢
  rw [h]
  apply ba_eq
  simp only [ByteArray.data_append, Array.toList_append, dig_data]
  conv => lhs; rw [Lib.decDigits, dif_neg (by omega)]
  simp
theorem DigTo.fin {m n : Nat} {s : ByteArray} (h : DigTo m n s) (hn : n < 10) : digB m = ⟨#[UInt8.ofNat (48 + n)]⟩ ++ s := by
  unfold DigTo at h
  rw [h]
  apply ba_eq
  simp only [ByteArray.data_append, Array.toList_append, dig_data]
  rw [Lib.decDigits, dif_pos hn]

/-! ### lines -/
def tagsT (t : ByteArray) : ByteArray := if t = ⟨#[]⟩ then ⟨#[46]⟩ else t
def spB : ByteArray := ⟨#[32]⟩
def nlB : ByteArray := ⟨#[10]⟩
def lineW (r : Ro) : List ByteArray := [r.name, r.maker, tagsT r.tags, itoaB r.price, itoaB r.stock]
def lineL (r : Ro) : List UInt8 := Lib.join ((lineW r).map (·.data.toList)) [32]
def lineB (r : Ro) : ByteArray := ⟨(lineL r).toArray⟩
theorem line_eq (r : Ro) : lineB r = r.name ++ spB ++ r.maker ++ spB ++ tagsT r.tags ++ spB ++ itoaB r.price ++ spB ++ itoaB r.stock := by
  apply ba_eq
  unfold lineB lineL lineW spB
  simp [Lib.join, List.intercalate, ByteArray.data_append]
/-- All lines, one behind the other. -/
def linesB : List Ro → ByteArray
  | [] => ⟨#[]⟩
  | r :: l => lineB r ++ nlB ++ linesB l
theorem ba_assoc (a b c : ByteArray) : a ++ b ++ c = a ++ (b ++ c) := by
  apply ba_eq
  simp [ByteArray.data_append]
theorem ba_nil (a : ByteArray) : a ++ (⟨#[]⟩ : ByteArray) = a := by
  apply ba_eq
  simp [ByteArray.data_append]
theorem ba_nil' (a : ByteArray) : (⟨#[]⟩ : ByteArray) ++ a = a := by
  apply ba_eq
  simp [ByteArray.data_append]
theorem text_snoc (l : List Ro) (r : Ro) : linesB (l ++ [r]) = linesB l ++ (lineB r ++ nlB) := by
  induction l with
  | nil => show lineB r ++ nlB ++ (⟨#[]⟩ : ByteArray) = ⟨#[]⟩ ++ _; rw [ba_nil, ba_nil']
  | cons a l ih => show lineB a ++ nlB ++ linesB (l ++ [r]) = lineB a ++ nlB ++ linesB l ++ _; rw [ih, ← ba_assoc]
def printB (l : List Ro) : ByteArray := if okL l = true then linesB l else ⟨#[]⟩
theorem ba_size (a b : ByteArray) : (a ++ b).size = a.size + b.size := by
  show (a ++ b).data.size = _
  rw [ByteArray.data_append, Array.size_append]
  rfl
theorem tagsT_size (t : ByteArray) : (tagsT t).size ≤ t.size + 1 := by
  unfold tagsT
  split
  · show 1 ≤ _; omega
  · omega
theorem line_size {r : Ro} {n : Nat} (hp : -9223372036854775808 ≤ r.price ∧ r.price ≤ 9223372036854775807) (hs : -9223372036854775808 ≤ r.stock ∧ r.stock ≤ 9223372036854775807) (h : r.name.size + r.maker.size + r.tags.size ≤ n) : (lineB r).size ≤ n + 47 := by
  rw [line_eq]
  simp only [ba_size]
  have h1 := itoaB_size hp.1 hp.2
  have h2 := itoaB_size hs.1 hs.2
  have h3 := tagsT_size r.tags
  have h4 : spB.size = 1 := rfl
  omega
theorem text_size {l : List Ro} {n : Nat} (h : ∀ r ∈ l, (lineB r).size ≤ n) : (linesB l).size ≤ l.length * (n + 1) := by
  induction l with
  | nil => show 0 ≤ _; omega
  | cons a l ih =>
    show (lineB a ++ nlB ++ linesB l).size ≤ _
    rw [ba_size, ba_size]
    have h1 := h a (by simp)
    have h2 := ih (fun r hr => h r (by simp [hr]))
    have h3 : nlB.size = 1 := rfl
    rw [List.length_cons, Nat.succ_mul]
    omega

/-! FdDig -/
open Go.Shelf Go.RowKit Go.Maps
set_option linter.unusedVariables false

theorem dig_small {n : Nat} (hn : n ≤ 1000000000) : (digB n).size ≤ 21 := by
  have := itoaB_size (n := (n : Int)) (by omega) (by omega)
  rwa [itoa_dig] at this
theorem DigTo.few {m n : Nat} {s : ByteArray} (h : DigTo m n s) (hm : m ≤ 1000000000) : s.size ≤ 21 := by
  have h1 := dig_small hm
  unfold DigTo at h
  rw [h, ba_size] at h1
  omega
theorem one_back (w : World) (b : UInt8) (z : Int) (hz : z = (b.toNat : Int)) : (convert 62 9 (.slice (some ⟨w.heap.size, 0, none⟩) 1 1)).run Tryz.prog (w.alloc (.cells #[.int .u8 z] 5)) = .ok (.string ⟨#[b]⟩) (w.alloc (.cells #[.int .u8 z] 5)) := by
  subst hz
  have HK : Blk (w.alloc (.cells #[.int .u8 (b.toNat : Int)] 5)) w.heap.size 5 #[.int .u8 (b.toNat : Int)] := Blk.new _ _ _
  exact run_convert_bytes_back (P := Tryz.prog) _ 62 9 5 ⟨w.heap.size, 0, none⟩ 1 [b] Tryz.underlying62 Tryz.underlying5 Tryz.underlying9 (fun j hj => by
    obtain rfl : j = 0 := by simpa using hj
    exact HK.cell 0)

/-! FdRLine -/
open Go.Shelf Go.RowKit Go.Maps
set_option linter.unusedVariables false


/-! FdRPrint -/
open Go.Shelf Go.RowKit Go.Maps
set_option linter.unusedVariables false

theorem rolines_next {l : List Ro} {k : Nat} {x : Ro} (h : l[k]? = some x) : linesB (l.take (k + 1)) = linesB (l.take k) ++ (lineB x ++ nlB) := by
  rw [List.take_add_one, h]
  exact text_snoc _ _
theorem mayR_num {r : Ro} (h : mayR r = true) : (0 ≤ r.price ∧ r.price ≤ 1048576) ∧ (0 ≤ r.stock ∧ r.stock ≤ 1048576) := by
  unfold mayR withB at h
  simp only [Bool.and_eq_true, decide_eq_true_eq] at h
  exact ⟨h.2.2.1, h.2.2.2.1⟩
theorem roline_few {r : Ro} (h : RoFew r) (hm : mayR r = true) : (lineB r).size ≤ 1000047 := by
  have hn := mayR_num hm
  unfold RoFew at h
  exact line_size ⟨by omega, by omega⟩ ⟨by omega, by omega⟩ (by omega)
theorem rolines_few {l : List Ro} (h : ∀ x ∈ l, (lineB x).size ≤ 1000047) (hn : l.length ≤ 1000) (k : Nat) : (linesB (l.take k)).size ≤ 1000048000 := by
  have h1 := text_size (l := l.take k) (n := 1000047) (fun r hr => h r (List.mem_of_mem_take hr))
  have h2 : (l.take k).length ≤ 1000 := by
    rw [List.length_take]; omega
  have h3 := Nat.mul_le_mul_right (1000047 + 1) h2
  omega


end Go.Proofs.YtikbckpphkpaiaaGreatDoor

/- RuleAtoms: the document's Digits; the texts of the law as rules: plain. -/
import Derived.Test.YtpgbgeofhcpocaaDoorRuHn
namespace Go.Proofs.YtpgbgeofhcpocaaDoor
open Go.RowKit Go.Maps Go.Shelf
set_option linter.unusedVariables false

theorem digW_of (n : Nat) : digW n = ⟨(Lib.itoa (n : Int)).toArray⟩ := by unfold digW; rw [Lib.itoa_nonneg]
theorem digW_size {n : Nat} (hn : n ≤ 1000000000) : (digW n).size ≤ 21 := by
  rw [digW_of]
  have := Lib.itoa_length_le (n : Int) (by omega) (by omega)
  show (Lib.itoa (n : Int)).toArray.size ≤ 21
  simpa using this
/-- What stands behind so far: the digits of m are those of n, and s. -/
def DigTo (m n : Nat) (s : ByteArray) : Prop := digW m = digW n ++ s
theorem DigTo.start (m : Nat) : DigTo m m ⟨#[]⟩ := by
  unfold DigTo
  apply ba_ext
  simp [ByteArray.data_append]
theorem DigTo.next {m n : Nat} {s : ByteArray} (h : DigTo m n s) (hn : 10 ≤ n) : DigTo m (n / 10) (⟨#[UInt8.ofNat (48 + n % 10)]⟩ ++ s) := by
  unfold DigTo at h ⊢
  rw [h]
  apply ba_ext
  simp only [ByteArray.data_append, Array.toList_append, digW_list]
  conv => lhs; rw [Lib.decDigits, dif_neg (by omega)]
  simp
theorem DigTo.fin {m n : Nat} {s : ByteArray} (h : DigTo m n s) (hn : n < 10) : digW m = ⟨#[UInt8.ofNat (48 + n)]⟩ ++ s := by
  unfold DigTo at h
  rw [h]
  apply ba_ext
  simp only [ByteArray.data_append, Array.toList_append, digW_list]
  rw [Lib.decDigits, dif_pos hn]
theorem DigTo.few {m n : Nat} {s : ByteArray} (h : DigTo m n s) (hm : m ≤ 1000000000) : s.size ≤ 21 := by
  have h1 := digW_size hm
  unfold DigTo at h
  rw [h, ByteArray.size_append] at h1
  omega
theorem one_back (w : World) (b : UInt8) (z : Int) (hz : z = (b.toNat : Int)) : (convert 70 9 (.slice (some ⟨w.heap.size, 0, none⟩) 1 1)).run Tryd.prog (w.alloc (.cells #[.int .u8 z] 5)) = .ok (.string ⟨#[b]⟩) (w.alloc (.cells #[.int .u8 z] 5)) := by
  subst hz
  have HK : Blk (w.alloc (.cells #[.int .u8 (b.toNat : Int)] 5)) w.heap.size 5 #[.int .u8 (b.toNat : Int)] := Blk.new _ _ _
  exact run_convert_bytes_back (P := Tryd.prog) _ 70 9 5 ⟨w.heap.size, 0, none⟩ 1 [b] Tryd.underlying70 Tryd.underlying5 Tryd.underlying9 (fun j hj => by
    obtain rfl : j = 0 := by simpa using hj
    exact HK.cell 0)
set_option maxHeartbeats 2000000 in
set_option maxRecDepth 100000 in
theorem rdigits_any (n : Nat) (w : World) (hn : n ≤ 1000000000) :
    Calls Tryd.prog 15 #[.int .i64 n] w fun e w' => e = .returned (.string (digW n)) ∧ Below w.heap.size w w' := by
  go_enter Tryd.func15, Tryd.ntmps15
  go_wp2_with fail
  go_loopw [0, 3] (fun i s wr => ∃ (k : Nat) (t : ByteArray), k ≤ n ∧ i = .int .i64 k ∧ s = .string t ∧ t.size ≤ 21 ∧ Hid (DigTo n k t) ∧ Hid (Below w.heap.size w wr)) (fun i _ _ => (intOf i).toNat)
  case atStart => exact ⟨n, ⟨#[]⟩, Nat.le_refl _, rfl, rfl, by decide, Lib.hid (DigTo.start n), Lib.hid (Below.refl _ _)⟩
  case round =>
    obtain ⟨k, t, hk, rfl, rfl, hts, hdg, hbw⟩ := hrel
    have hzw := hbw.out.size
    by_cases hlt : 9 < k
    · have h9 : (9 : Int) < (k : Int) := by omega
      obtain ⟨b, hb⟩ : ∃ b : UInt8, UInt8.ofNat (48 + k % 10) = b := ⟨_, rfl⟩
      have hbn : 48 + (k : Int) % 10 = (b.toNat : Int) := by
        rw [← hb, UInt8.toNat_ofNat_of_lt' (by show _ < 256; omega)]
        omega
      have hcv := one_back wr b _ hbn
      have HD : Hid (DigTo n (k / 10) (⟨#[b]⟩ ++ t)) := Lib.hid (by rw [← hb]; exact hdg.out.next (by omega))
      have HS : Hid ((⟨#[b]⟩ ++ t : ByteArray).size ≤ 21) := Lib.hid (HD.out.few hn)
      have HBW : Hid (Below w.heap.size w (wr.alloc (.cells #[.int .u8 (48 + (k : Int) % 10)] 5))) := Lib.hid (hbw.out.alloc hzw _)
      have hb1 : (⟨#[b]⟩ : ByteArray).size = 1 := rfl
      clear hbn hb
      go_wp2_with fail
      go_roundw
      case rel => exact ⟨k / 10, _, by omega, by go_num, rfl, HS.out, HD, HBW⟩
      case measure => simp [intOf]; omega
    · obtain ⟨b, hb⟩ : ∃ b : UInt8, UInt8.ofNat (48 + k) = b := ⟨_, rfl⟩
      have hbn : 48 + (k : Int) = (b.toNat : Int) := by
        rw [← hb, UInt8.toNat_ofNat_of_lt' (by show _ < 256; omega)]
        omega
      have hcv := one_back wr b _ hbn
      have HD : Hid (digW n = ⟨#[b]⟩ ++ t) := Lib.hid (by rw [← hb]; exact hdg.out.fin (by omega))
      have HBW : Hid (Below w.heap.size w (wr.alloc (.cells #[.int .u8 (48 + (k : Int))] 5))) := Lib.hid (hbw.out.alloc hzw _)
      have hb1 : (⟨#[b]⟩ : ByteArray).size = 1 := rfl
      clear hbn hb
      go_wp2_with fail
      go_ret
      exact ⟨congrArg (fun s => Ending.returned (Value.string s)) HD.out.symm, HBW.out⟩
/-! ### the texts -/
theorem says_nf {n : Nd} (h : NF n) (hd : 0 + dep n 1 ≤ 40) (hl : (ownN n 0).length ≤ 2000) : Says (ownB n 0) (some (some n)) 0 := by
  obtain ⟨ns2, hp2, e2⟩ := again_of h 0 0 (by omega) hd [] stop_nil
  have hsize : (ownB n 0).size = (ownN n 0).length := ownB_size n 0
  have htk : tkS (ownB n 0) = tkN n 1 := by
    show tkS ⟨(ownN n 0).toArray⟩ = _
    rw [tk_own h]
    cases n with
    | atom a => rw [tkN, tkN]
    | no n => rw [tkN, tkN]
    | row k l => rw [tkN, tkN, if_neg (by omega), if_neg (by omega)]
  rw [List.append_nil] at hp2
  have hne : toks (ownB n 0) ≠ [] := by
    rw [Ne, toks_nil, htk]
    exact tkN_ne h 1
  have h7 : Says (ownB n 0) (some (some (nodeOf 0 ns2))) 0 := .good (by rw [hsize]; omega) hne (by rw [toks_tk, htk]; exact hp2)
  rwa [e2] at h7
theorem own_leaf (a : Leaf) : ownB (.atom a) 0 = leafT a := by
  refine ba_ext ?_
  unfold ownB
  rw [ownN]
theorem says_num {k n : Nat} (less : Bool) (hk : k < 4) (hn : n ≤ 255) : Says (whatW k ++ signW less ++ digW n) (some (some (.atom (.num k less n)))) 0 := by
  have h1 : LeafOk (.num k less n) := ⟨hk, by omega⟩
  have h2 : (leafT (.num k less n)).size ≤ 2000 := by
    show (whatW k ++ signW less ++ digW n).size ≤ 2000
    have h3 := digW_size (n := n) (by omega)
    have h4 : (signW less).size = 1 := by cases less <;> rfl
    have h5 : (whatW k).size ≤ 5 := by rcases (show k = 0 ∨ k = 1 ∨ k = 2 ∨ k = 3 by omega) with rfl | rfl | rfl | rfl <;> decide
    rw [ByteArray.size_append, ByteArray.size_append]
    omega
  have h6 := says_nf (.atom h1) (by rw [dep]; omega) (by rw [ownN]; simpa using h2)
  rw [own_leaf] at h6
  exact h6
def dnfN : Nd := .row 1 [.atom .done, .no (.atom .follows)]
def dnfB : ByteArray := ⟨#[100, 111, 110, 101, 32, 97, 110, 100, 32, 110, 111, 116, 32, 102, 111, 108, 108, 111, 119, 115]⟩
theorem dnf_nf : NF dnfN := by
  refine .row (by omega) (fun n hn => ?_) (fun n hn l => ?_) (by decide)
  · simp at hn
    rcases hn with rfl | rfl
    · exact .atom trivial
    · exact .no (.atom trivial)
  · simp at hn
    rcases hn with rfl | rfl <;> (intro e; cases e)
theorem dnf_own : ownB dnfN 0 = dnfB := by
  refine ba_ext ?_
  unfold ownB
  simp only [dnfN, ownN, ownL, ownM]
  rfl
theorem says_dnf : Says dnfB (some (some dnfN)) 0 := by
  have h : (ownN dnfN 0).length ≤ 2000 := by rw [← ownB_size, dnf_own]; decide
  have := says_nf dnf_nf (by decide) h
  rwa [dnf_own] at this
theorem dnf_holds (f : Fx) : holdsN f dnfN = (f.done && !f.follows) := by
  unfold dnfN
  rw [holdsN, if_neg (by omega), someNot, someNot, someNot, holdsN, holdsN, holdsN]
  show (!(!f.done || (! !f.follows || false))) = _
  cases f.done <;> cases f.follows <;> rfl
theorem num_says (z : Fz) (k : Nat) (less : Bool) (n : Nat) : holdsN (fzX z) (.atom (.num k less n)) = if less then decide ((fzX z).val k < n) else decide ((n : Int) < (fzX z).val k) := by
  rw [holdsN]; rfl
end Go.Proofs.YtpgbgeofhcpocaaDoor

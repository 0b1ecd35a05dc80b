/- The document's digits and Encode. -/
import Derived.Test.YtobkgkiomapabaaGreatDoorDcB
import Derived.Lib.ItoaLen
namespace Go.Proofs.YtobkgkiomapabaaGreatDoor
open Go.RowKit Go.Maps Go.Shelf
set_option linter.unusedVariables false

/-! ### numbers -/
def itoaB (n : Int) : ByteArray := ⟨(Lib.itoa n).toArray⟩
theorem itoaB_data (n : Int) : (itoaB n).data.toList = Lib.itoa n := by unfold itoaB; simp
theorem itoaB_size {n : Int} (h0 : -9223372036854775808 ≤ n) (h1 : n ≤ 9223372036854775807) : (itoaB n).size ≤ 21 := by
  have := Lib.itoa_length_le n h0 h1
  show (Lib.itoa n).toArray.size ≤ 21
  simpa using this
theorem ba_size (a b : ByteArray) : (a ++ b).size = a.size + b.size := by
  show (a ++ b).data.size = _
  rw [ByteArray.data_append, Array.size_append]
  rfl
/-- How far the digits of m are: k is left. -/
def DigU (m k : Nat) (t : ByteArray) : Prop := (t = ⟨#[]⟩ ∧ k = m) ∨ (t ≠ ⟨#[]⟩ ∧ Lib.decDigits m = (if k = 0 then [] else Lib.decDigits k) ++ t.data.toList)
theorem cons_ne (b : UInt8) (t : ByteArray) : (⟨#[b]⟩ : ByteArray) ++ t ≠ ⟨#[]⟩ := fun e => by
  have := congrArg ByteArray.size e
  rw [ba_size] at this
  have h1 : (⟨#[b]⟩ : ByteArray).size = 1 := rfl
  have h0 : (⟨#[]⟩ : ByteArray).size = 0 := rfl
  omega
theorem dig_split (k : Nat) : Lib.decDigits k = (if k / 10 = 0 then [] else Lib.decDigits (k / 10)) ++ [UInt8.ofNat (48 + k % 10)] := by
  rw [Lib.decDigits]
  by_cases h : k < 10
  · rw [dif_pos h, if_pos (by omega), List.nil_append, Nat.mod_eq_of_lt h]
  · rw [dif_neg h, if_neg (by omega)]
theorem DigU.next {m k : Nat} {t : ByteArray} (h : DigU m k t) (hn : 0 < k ∨ t = ⟨#[]⟩) : DigU m (k / 10) (⟨#[UInt8.ofNat (48 + k % 10)]⟩ ++ t) := by
  refine Or.inr ⟨cons_ne _ _, ?_⟩
  rw [ByteArray.data_append, Array.toList_append]
  rcases h with ⟨rfl, rfl⟩ | ⟨ht, h⟩
  · rw [dig_split]
    simp
  · have hk : k ≠ 0 := by
      rcases hn with h1 | h1
      · omega
      · exact absurd h1 ht
    rw [h, if_neg hk, dig_split k]
    simp
theorem DigU.fin {m : Nat} {t : ByteArray} (h : DigU m 0 t) (ht : t ≠ ⟨#[]⟩) : t = itoaB (m : Int) := by
  rcases h with ⟨h1, _⟩ | ⟨_, h⟩
  · exact absurd h1 ht
  · apply ba_eq
    rw [itoaB_data, Lib.itoa_nonneg, h]
    simp
theorem DigU.few {m k : Nat} {t : ByteArray} (h : DigU m k t) (hm : m ≤ 1099511627776) : t.size ≤ 21 := by
  rcases h with ⟨rfl, _⟩ | ⟨_, h⟩
  · decide
  · have h1 := Lib.itoa_length_le (m : Int) (by omega) (by omega)
    rw [Lib.itoa_nonneg, h, List.length_append] at h1
    show t.data.size ≤ 21
    have : t.data.toList.length = t.data.size := by simp
    omega
theorem one_back (w : World) (b : UInt8) (z : Int) (hz : z = (b.toNat : Int)) : (convert 22 9 (.slice (some ⟨w.heap.size, 0, none⟩) 1 1)).run Tryz.prog (w.alloc (.cells #[.int .u8 z] 5)) = .ok (.string ⟨#[b]⟩) (w.alloc (.cells #[.int .u8 z] 5)) := by
  subst hz
  have HK : Blk (w.alloc (.cells #[.int .u8 (b.toNat : Int)] 5)) w.heap.size 5 #[.int .u8 (b.toNat : Int)] := Blk.new _ _ _
  exact run_convert_bytes_back (P := Tryz.prog) _ 22 9 5 ⟨w.heap.size, 0, none⟩ 1 [b] Tryz.underlying22 Tryz.underlying5 Tryz.underlying9 (fun j hj => by
    obtain rfl : j = 0 := by simpa using hj
    exact HK.cell 0)
def emptyS : Value → Nat
  | .string t => if t.size = 0 then 1 else 0
  | _ => 0
theorem emptyS_cons (b : UInt8) (t : ByteArray) : emptyS (.string (⟨#[b]⟩ ++ t)) = 0 := by
  show (if (⟨#[b]⟩ ++ t : ByteArray).size = 0 then 1 else 0) = 0
  rw [if_neg]
  rw [ba_size]
  have h1 : (⟨#[b]⟩ : ByteArray).size = 1 := rfl
  omega
theorem empty_yes : (⟨#[]⟩ : ByteArray).toList.isEmpty = true := by rw [Lib.toList_data]; rfl
theorem empty_no {t : ByteArray} (h : t ≠ ⟨#[]⟩) : t.toList.isEmpty = false := by
  rw [Lib.toList_data]
  cases he : t.data.toList.isEmpty with
  | false => rfl
  | true => exact absurd (ba_eq (by rw [List.isEmpty_iff.1 he])) h

set_option maxHeartbeats 2000000 in
set_option maxRecDepth 100000 in
theorem rdigits_any (n : Int) (w : World) (h0 : -1 ≤ n) (hn : n ≤ 1099511627776) :
    Calls Tryz.prog 43 #[.int .i64 n] w fun e w' => e = .returned (.string (itoaB n)) ∧ Below w.heap.size w w' := by
  by_cases hneg : n < 0
  · obtain rfl : n = -1 := by omega
    have HV : Hid (itoaB (-1) = ⟨#[45, 49]⟩) := Lib.hid (by
      apply ba_eq
      rw [itoaB_data]
      rw [show (-1 : Int) = -((1 : Nat) : Int) from rfl, Lib.itoa_neg 1 (by omega)]
      rw [Lib.decDigits_one (by omega)]
      rfl)
    go_enter Tryz.func43, Tryz.ntmps43
    go_wp2_with fail
    go_ret
    exact ⟨congrArg (fun s => Ending.returned (Value.string s)) HV.out.symm, Below.refl _ _⟩
  · obtain ⟨m, rfl⟩ : ∃ m : Nat, n = m := ⟨n.toNat, by omega⟩
    have hm : m ≤ 1099511627776 := by omega
    have hneg2 : ¬ ((m : Int) < 0) := hneg
    clear h0 hn hneg
    go_enter Tryz.func43, Tryz.ntmps43
    go_wp2_with fail
    go_loopw [0, 3] (fun i s wr => ∃ (k : Nat) (t : ByteArray), k ≤ m ∧ i = .int .i64 k ∧ s = .string t ∧ t.size ≤ 21 ∧ Hid (DigU m k t) ∧ Hid (Below w.heap.size w wr)) (fun i s _ => (intOf i).toNat + emptyS s)
    case atStart => exact ⟨m, ⟨#[]⟩, Nat.le_refl _, rfl, rfl, by decide, Lib.hid (Or.inl ⟨rfl, rfl⟩), Lib.hid (Below.refl _ _)⟩
    case round =>
      obtain ⟨k, t, hk, rfl, rfl, hts, hdg, hbw⟩ := hrel
      have hzw := hbw.out.size
      by_cases hgo : 0 < k ∨ t = ⟨#[]⟩
      · obtain ⟨b, hb⟩ : ∃ b : UInt8, UInt8.ofNat (48 + k % 10) = b := ⟨_, rfl⟩
        have hbn : 48 + (k : Int) % 10 = (b.toNat : Int) := by
          rw [← hb, UInt8.toNat_ofNat_of_lt' (by show _ < 256; omega)]
          omega
        have hcv := one_back wr b _ hbn
        have HD : Hid (DigU m (k / 10) (⟨#[b]⟩ ++ t)) := Lib.hid (by rw [← hb]; exact hdg.out.next hgo)
        have HS : Hid ((⟨#[b]⟩ ++ t : ByteArray).size ≤ 21) := Lib.hid (HD.out.few hm)
        have HBW : Hid (Below w.heap.size w (wr.alloc (.cells #[.int .u8 (48 + (k : Int) % 10)] 5))) := Lib.hid (hbw.out.alloc hzw _)
        have hb1 : (⟨#[b]⟩ : ByteArray).size = 1 := rfl
        have HME := Lib.hid (emptyS_cons b t)
        clear hbn hb
        rcases hgo with hgo | hgo
        · have hg2 : decide ((0 : Int) < (k : Int)) = true := decide_eq_true (by omega)
          go_wp2_with fail
          go_roundw
          case rel => exact ⟨k / 10, _, by omega, by go_num, rfl, HS.out, HD, HBW⟩
          case measure =>
            show (intOf (.int .i64 _)).toNat + emptyS (.string (⟨#[b]⟩ ++ t)) < (intOf (.int .i64 _)).toNat + emptyS (.string t)
            rw [HME.out]
            simp [intOf]
            omega
        · subst hgo
          by_cases hk0 : 0 < k
          · have hg2 : decide ((0 : Int) < (k : Int)) = true := decide_eq_true (by omega)
            go_wp2_with fail
            go_roundw
            case rel => exact ⟨k / 10, _, by omega, by go_num, rfl, HS.out, HD, HBW⟩
            case measure =>
              show (intOf (.int .i64 _)).toNat + emptyS (.string (⟨#[b]⟩ ++ ⟨#[]⟩)) < (intOf (.int .i64 _)).toNat + emptyS (.string ⟨#[]⟩)
              rw [HME.out]
              simp [intOf]
              omega
          · obtain rfl : k = 0 := by omega
            have he := empty_yes
            have e48 : 48 + ((0 : Nat) : Int) % 10 = 48 := by decide
            rw [e48] at hcv HBW
            go_wp2_with fail
            go_roundw
            case rel => exact ⟨0, _, by omega, by go_num, rfl, HS.out, HD, HBW⟩
            case measure =>
              show (intOf (.int .i64 _)).toNat + emptyS (.string (⟨#[b]⟩ ++ ⟨#[]⟩)) < (intOf (.int .i64 _)).toNat + emptyS (.string ⟨#[]⟩)
              rw [HME.out]
              simp [intOf, emptyS]
              split
              · omega
              · rename_i h; exact absurd rfl h
      · obtain rfl : k = 0 := by omega
        have ht : t ≠ ⟨#[]⟩ := fun e => hgo (Or.inr e)
        have he := empty_no ht
        have HV := Lib.hid (hdg.out.fin ht)
        clear hgo ht
        go_wp2_with fail
        go_ret
        exact ⟨congrArg (fun s => Ending.returned (Value.string s)) HV.out, hbw.out⟩

/-! ### Encode -/
def lineS (x : Sc) : List UInt8 := lineC x.1 [x.2.1, x.2.2]
def headC (c : Ck) : List UInt8 := lineC clockW [c.slack, c.idle, c.now, c.mark]
def encB (c : Ck) (l : List Sc) : ByteArray := ⟨(headC c ++ l.flatMap lineS).toArray⟩
theorem keys_rows {f : List UInt8 → Option (Int × Int)} {ks : List (List UInt8)} {l : List Sc} (h : KeysOf' (fun s => (f s).isSome) ks) (hr : Rows' f l) : ks = l.map fun x => x.1.data.toList := by
  obtain ⟨ss, rfl, hn, hm⟩ := h
  have tr : ∀ a b c : List UInt8, decide (a ≤ b) = true → decide (b ≤ c) = true → decide (a ≤ c) = true := fun a b c h1 h2 => by simp only [decide_eq_true_eq] at *; exact List.le_trans h1 h2
  have tot : ∀ a b : List UInt8, (decide (a ≤ b) || decide (b ≤ a)) = true := fun a b => by simp only [Bool.or_eq_true, decide_eq_true_eq]; exact List.le_total a b
  have hp : (l.map fun x : Sc => x.1.data.toList).Pairwise (fun a b => a < b) := List.pairwise_map.2 (hr.asc.imp (fun h => h))
  have hnd : (l.map fun x : Sc => x.1.data.toList).Nodup := by
    rw [List.nodup_iff_pairwise_ne]
    exact hp.imp (fun h e => by subst e; exact List.lt_irrefl _ h)
  have hpe : ss.Perm (l.map fun x : Sc => x.1.data.toList) := (List.perm_ext_iff_of_nodup hn hnd).2 (fun s => by
    rw [hm, List.mem_map]
    constructor
    · intro h
      obtain ⟨x, hx⟩ := Option.isSome_iff_exists.1 h
      exact ⟨_, (hr.mem ⟨s.toArray⟩ x).1 (by simpa using hx), by simp⟩
    · rintro ⟨⟨n, x⟩, hx, rfl⟩
      show (f n.data.toList).isSome = true
      rw [(hr.mem n x).2 hx]
      rfl)
  refine List.Perm.eq_of_pairwise (le := fun a b => decide (a ≤ b) = true) (fun a b _ _ h1 h2 => ?_) (List.pairwise_mergeSort tr tot ss) (hp.imp (fun h => by simp only [decide_eq_true_eq]; exact List.le_of_lt h)) ((List.mergeSort_perm ss _).trans hpe)
  simp only [decide_eq_true_eq] at h1 h2
  exact List.le_antisymm h1 h2
theorem enc_rows {c : Ck} {l : List Sc} (hr : Rows' c.src l) : encC c (l.map fun x => x.1.data.toList) = headC c ++ l.flatMap lineS := by
  unfold encC headC
  congr 1
  rw [List.flatMap_map]
  have : ∀ l' : List Sc, (∀ x ∈ l', x ∈ l) → (l'.flatMap fun a => srcLine c a.1.data.toList) = l'.flatMap lineS := by
    intro l' hl
    induction l' with
    | nil => rfl
    | cons x l' ih =>
      rw [List.flatMap_cons, List.flatMap_cons, ih (fun y hy => hl y (by simp [hy]))]
      congr 1
      unfold srcLine srcOf lineS
      rw [(hr.mem x.1 x.2).2 (hl x (by simp))]
      rfl
  exact this l (fun _ h => h)

theorem head_is (c : Ck) : (⟨#[99, 108, 111, 99, 107, 32]⟩ : ByteArray) ++ itoaB c.slack ++ ⟨#[32]⟩ ++ itoaB c.idle ++ ⟨#[32]⟩ ++ itoaB c.now ++ ⟨#[32]⟩ ++ itoaB c.mark ++ ⟨#[10]⟩ = encB c [] := by
  apply ba_eq
  unfold encB headC lineC clockW
  simp [ByteArray.data_append, itoaB_data]
theorem line_is (c : Ck) (l : List Sc) (x : Sc) : encB c l ++ x.1 ++ ⟨#[32]⟩ ++ itoaB x.2.1 ++ ⟨#[32]⟩ ++ itoaB x.2.2 ++ ⟨#[10]⟩ = encB c (l ++ [x]) := by
  apply ba_eq
  unfold encB lineS lineC
  simp [ByteArray.data_append, itoaB_data]
theorem encB_few {c : Ck} {l : List Sc} (ho : c.Ok) (hr : ∀ x ∈ l, 0 ≤ x.2.1 ∧ x.2.1 ≤ 1099511627776 ∧ 0 ≤ x.2.2 ∧ x.2.2 ≤ 1099511627776 ∧ x.1.size ≤ 24) : (encB c l).size ≤ 94 + 69 * l.length := by
  have h1 : (headC c).length ≤ 94 := line_few clockW [c.slack, c.idle, c.now, c.mark] (fun x hx => by
    obtain ⟨o1, o2, o3, o4, o5, o6, o7, o8⟩ := ho
    simp only [List.mem_cons, List.not_mem_nil, or_false] at hx
    rcases hx with rfl | rfl | rfl | rfl <;> omega)
  have h2 : ∀ l' : List Sc, (∀ x ∈ l', x ∈ l) → (l'.flatMap lineS).length ≤ 69 * l'.length := by
    intro l' hl
    induction l' with
    | nil => simp
    | cons x l' ih =>
      have ih := ih (fun y hy => hl y (by simp [hy]))
      obtain ⟨b1, b2, b3, b4, b5⟩ := hr x (hl x (by simp))
      have h3 := line_few x.1 [x.2.1, x.2.2] (fun z hz => by
        simp only [List.mem_cons, List.not_mem_nil, or_false] at hz
        rcases hz with rfl | rfl <;> omega)
      rw [List.flatMap_cons, List.length_append, List.length_cons]
      unfold lineS at ih ⊢
      simp only [List.length_cons, List.length_nil] at h3
      omega
  have h3 := h2 l (fun _ h => h)
  show ((headC c ++ l.flatMap lineS).toArray).size ≤ _
  simp only [List.size_toArray, List.length_append]
  omega

set_option maxHeartbeats 4000000 in
set_option maxRecDepth 100000 in
theorem rencode_any (D db n : Nat) (c : Ck) (w : World) (hb : n ≤ 10000) (h : DocAt w D db n c) :
    Calls Tryz.prog 24 #[.pointer (some ⟨db, 0, none⟩)] w fun e w' => ∃ l, e = .returned (.string (encB c l)) ∧ Rows' c.src l ∧ Below w.heap.size w w' := by
  obtain ⟨A, cc, l, hl, h⟩ := h
  obtain ⟨m, hm⟩ : ∃ m, l.length = m := ⟨_, rfl⟩
  have HSC : Hid (∀ V, Below w.heap.size w V → V.cell? ⟨db, 0, none⟩ = some (.int .i64 c.slack) ∧ V.cell? ⟨db, 1, none⟩ = some (.int .i64 c.idle) ∧ V.cell? ⟨db, 2, none⟩ = some (.int .i64 c.now) ∧ V.cell? ⟨db, 3, none⟩ = some (.int .i64 c.mark) ∧ V.cell? ⟨db, 4, none⟩ = some (.slice A m cc)) := Lib.hid (fun V hV => by
    have k := (h.below hV).blk
    rw [hm] at k
    exact ⟨k.cell 0, k.cell 1, k.cell 2, k.cell 3, k.cell 4⟩)
  have H := Lib.hid h
  have HM := Lib.hid hm
  have HO := Lib.hid h.ok
  have HS0 : Hid (Below w.heap.size w w.drew) := Lib.hid (Go.Proofs.YtobkgkiomapabaaGreatDoor.below_drew (Below.refl _ _))
  have hmb : m ≤ 10000 := by omega
  clear h hm
  obtain ⟨o1, o2, o3, o4, o5, o6, o7, o8⟩ := HO.out
  have HD : Hid (∀ (z : Int) (V : World), -1 ≤ z → z ≤ 1099511627776 → Calls Tryz.prog 43 #[.int .i64 z] V fun e w' => e = .returned (.string (itoaB z)) ∧ Below V.heap.size V w') := Lib.hid (fun z V h1 h2 => rdigits_any z V h1 h2)
  have z1 := itoaB_size (n := c.slack) (by omega) (by omega)
  have z2 := itoaB_size (n := c.idle) (by omega) (by omega)
  have z3 := itoaB_size (n := c.now) (by omega) (by omega)
  have z4 := itoaB_size (n := c.mark) (by omega) (by omega)
  have sp1 : (⟨#[32]⟩ : ByteArray).size = 1 := rfl
  have sp2 : (⟨#[10]⟩ : ByteArray).size = 1 := rfl
  have sp3 : (⟨#[99, 108, 111, 99, 107, 32]⟩ : ByteArray).size = 6 := rfl
  have HHD := Lib.hid (head_is c)
  go_enter Tryz.func24, Tryz.ntmps24
  go_wp2_with fail
  refine wp_plan (fun V => Below w.heap.size w V) [(0, false), (1, false), (2, false), (3, false), (7, false), (8, false), (9, false), (10, false), (14, false), (15, false), (16, false), (17, false), (21, false), (22, false), (23, false), (24, false), (4, true), (5, false), (6, false), (11, true), (12, false), (13, false), (18, true), (19, false), (20, false), (25, true), (26, false), (27, false), (28, false)] (by kernel_rfl) (by kernel_rfl) HS0.out ?_
  simp only [planL, List.getElem?_cons_zero, List.getElem?_cons_succ]
  repeat (first | (refine plan_on _ (by rfl) (fun W hW => by (obtain ⟨x0, x1, x2, x3, x4⟩ := HSC.out W hW; go_simp; try (first | with_reducible rfl | rw [if_neg (by omega)]))) ?_; simp only [Act.put, List.setIfInBounds_toArray, List.set_cons_zero, List.set_cons_succ]) | (refine plan_off (by rfl) ?_; simp only [Act.put, List.setIfInBounds_toArray, List.set_cons_zero, List.set_cons_succ]))
  refine plan_turn ?_
  go_wp2_with fail
  refine (HD.out _ _ (by omega) (by omega)).mono ?_
  rintro e w1 ⟨rfl, hb1⟩
  have HB1 : Hid (Below w.heap.size w w1) := Lib.hid (HS0.out.trans hb1)
  clear hb1
  go_wp2_with fail
  refine ⟨HB1.out, ?_⟩
  repeat (first | (refine plan_on _ (by rfl) (fun W hW => by (obtain ⟨x0, x1, x2, x3, x4⟩ := HSC.out W hW; go_simp; try (first | with_reducible rfl | rw [if_neg (by omega)]))) ?_; simp only [Act.put, List.setIfInBounds_toArray, List.set_cons_zero, List.set_cons_succ]) | (refine plan_off (by rfl) ?_; simp only [Act.put, List.setIfInBounds_toArray, List.set_cons_zero, List.set_cons_succ]))
  refine plan_turn ?_
  go_wp2_with fail
  refine (HD.out _ _ (by omega) (by omega)).mono ?_
  rintro e w2 ⟨rfl, hb2⟩
  have HB2 : Hid (Below w.heap.size w w2) := Lib.hid (HB1.out.trans (hb2.mono HB1.out.size))
  clear hb2
  go_wp2_with fail
  refine ⟨HB2.out, ?_⟩
  repeat (first | (refine plan_on _ (by rfl) (fun W hW => by (obtain ⟨x0, x1, x2, x3, x4⟩ := HSC.out W hW; go_simp; try (first | with_reducible rfl | rw [if_neg (by omega)]))) ?_; simp only [Act.put, List.setIfInBounds_toArray, List.set_cons_zero, List.set_cons_succ]) | (refine plan_off (by rfl) ?_; simp only [Act.put, List.setIfInBounds_toArray, List.set_cons_zero, List.set_cons_succ]))
  refine plan_turn ?_
  go_wp2_with fail
  refine (HD.out _ _ (by omega) (by omega)).mono ?_
  rintro e w3 ⟨rfl, hb3⟩
  have HB3 : Hid (Below w.heap.size w w3) := Lib.hid (HB2.out.trans (hb3.mono HB2.out.size))
  clear hb3
  go_wp2_with fail
  refine ⟨HB3.out, ?_⟩
  repeat (first | (refine plan_on _ (by rfl) (fun W hW => by (obtain ⟨x0, x1, x2, x3, x4⟩ := HSC.out W hW; go_simp; try (first | with_reducible rfl | rw [if_neg (by omega)]))) ?_; simp only [Act.put, List.setIfInBounds_toArray, List.set_cons_zero, List.set_cons_succ]) | (refine plan_off (by rfl) ?_; simp only [Act.put, List.setIfInBounds_toArray, List.set_cons_zero, List.set_cons_succ]))
  refine plan_turn ?_
  go_wp2_with fail
  refine (HD.out _ _ (by omega) (by omega)).mono ?_
  rintro e w4 ⟨rfl, hb4⟩
  have HB4 : Hid (Below w.heap.size w w4) := Lib.hid (HB3.out.trans (hb4.mono HB3.out.size))
  clear hb4
  go_wp2_with fail
  refine ⟨HB4.out, ?_⟩
  repeat (first | (refine plan_on _ (by rfl) (fun W hW => by (obtain ⟨x0, x1, x2, x3, x4⟩ := HSC.out W hW; go_simp; try (first | with_reducible rfl | rw [if_neg (by omega)]))) ?_; simp only [Act.put, List.setIfInBounds_toArray, List.set_cons_zero, List.set_cons_succ]) | (refine plan_off (by rfl) ?_; simp only [Act.put, List.setIfInBounds_toArray, List.set_cons_zero, List.set_cons_succ]))
  refine plan_done ?_
  rw [HHD.out]
  clear HHD z1 z2 z3 z4 sp3
  go_wp2_with fail
  go_loopw [3, 4] (fun sv i wr => ∃ k : Nat, k ≤ m ∧ i = .int .i64 k ∧ sv = .string (encB c (l.take k)) ∧ Hid (Below w.heap.size w wr)) (fun _ i _ => m - (intOf i).toNat)
  case atStart => exact ⟨0, Nat.zero_le _, rfl, rfl, HB4⟩
  case round =>
    obtain ⟨k, hk, rfl, rfl, hbw⟩ := hrel
    have hBr : w.heap.size ≤ wr.heap.size := hbw.out.size
    obtain ⟨_, _, _, _, c4⟩ := HSC.out wr hbw.out
    by_cases hlt : k < m
    · obtain ⟨x, hx⟩ : ∃ x, l[k]? = some x := ⟨l[k]'(by rw [HM.out]; exact hlt), List.getElem?_eq_getElem _⟩
      obtain ⟨xn, x1, x2⟩ := x
      obtain ⟨b1, b2, b3, b4, b5⟩ := H.out.rows.ok _ (List.mem_of_getElem? hx)
      dsimp only at b1 b2 b3 b4 b5
      obtain ⟨g, o, rfl, hg, e0, e1, e2⟩ := (H.out.below hbw.out).at hx
      dsimp only at e0 e1 e2
      have HSK : Hid (∀ V, Below wr.heap.size wr V → V.cell? ⟨db, 4, none⟩ = some (.slice (some ⟨g, o, none⟩) m cc) ∧ V.cell? ⟨g, o + k * 3, none⟩ = some (.string xn) ∧ V.cell? ⟨g, o + k * 3 + 1, none⟩ = some (.int .i64 x1) ∧ V.cell? ⟨g, o + k * 3 + 2, none⟩ = some (.int .i64 x2)) := Lib.hid (fun V hV => ⟨(HSC.out V (hbw.out.trans (hV.mono hBr))).2.2.2.2, (hV.cell (p := ⟨g, _, none⟩) hg).trans e0, (hV.cell (p := ⟨g, _, none⟩) hg).trans e1, (hV.cell (p := ⟨g, _, none⟩) hg).trans e2⟩)
      have HTK : Hid (encB c (l.take k) ++ xn ++ ⟨#[32]⟩ ++ itoaB x1 ++ ⟨#[32]⟩ ++ itoaB x2 ++ ⟨#[10]⟩ = encB c (l.take (k + 1))) := Lib.hid (by rw [List.take_add_one, hx]; exact line_is c (l.take k) (xn, x1, x2))
      have HSZ : Hid ((encB c (l.take k)).size ≤ 94 + 69 * k) := Lib.hid (by
        have := encB_few (l := l.take k) HO.out (fun y hy => H.out.rows.ok y (List.mem_of_mem_take hy))
        have h2 := List.length_take_le k l
        omega)
      have hsz := HSZ.out
      have z1 := itoaB_size (n := x1) (by omega) (by omega)
      have z2 := itoaB_size (n := x2) (by omega) (by omega)
      have hk8 : (k : Int) < (m : Int) := by omega
      have hk9 : (0 : Int) ≤ (k : Int) := by omega
      have HSR : Hid (Below wr.heap.size wr wr.drew) := Lib.hid (Go.Proofs.YtobkgkiomapabaaGreatDoor.below_drew (Below.refl _ _))
      obtain ⟨eb, heb⟩ : ∃ eb, encB c (l.take k) = eb := ⟨_, rfl⟩
      rw [heb] at HTK hsz ⊢
      clear hx e0 e1 e2 heb HSZ
      go_wp2_with fail
      refine wp_plan (fun V => Below wr.heap.size wr V) [(0, false), (1, false), (2, false), (3, false), (4, false), (5, false), (6, false), (7, false), (8, false), (9, false), (10, false), (11, false), (12, false), (13, false), (14, false), (15, false), (16, false), (17, false), (18, false), (22, false), (23, false), (24, false), (25, false), (26, false), (27, false), (28, false), (29, false), (19, true), (20, false), (21, false), (30, true), (31, false), (32, false), (33, false)] (by kernel_rfl) (by kernel_rfl) HSR.out ?_
      simp only [planL, List.getElem?_cons_zero, List.getElem?_cons_succ]
      repeat (first | (refine plan_on _ (by rfl) (fun W hW => by (obtain ⟨y0, y1, y2, y3⟩ := HSK.out W hW; go_simp; try (first | with_reducible rfl | rw [if_neg (by omega)]))) ?_; simp only [Act.put, List.setIfInBounds_toArray, List.set_cons_zero, List.set_cons_succ]) | (refine plan_off (by rfl) ?_; simp only [Act.put, List.setIfInBounds_toArray, List.set_cons_zero, List.set_cons_succ]))
      refine plan_turn ?_
      go_wp2_with fail
      refine (HD.out _ _ (by omega) (by omega)).mono ?_
      rintro e w5 ⟨rfl, hb5⟩
      have HB5 : Hid (Below wr.heap.size wr w5) := Lib.hid (HSR.out.trans hb5)
      clear hb5
      go_wp2_with fail
      refine ⟨HB5.out, ?_⟩
      repeat (first | (refine plan_on _ (by rfl) (fun W hW => by (obtain ⟨y0, y1, y2, y3⟩ := HSK.out W hW; go_simp; try (first | with_reducible rfl | rw [if_neg (by omega)]))) ?_; simp only [Act.put, List.setIfInBounds_toArray, List.set_cons_zero, List.set_cons_succ]) | (refine plan_off (by rfl) ?_; simp only [Act.put, List.setIfInBounds_toArray, List.set_cons_zero, List.set_cons_succ]))
      refine plan_turn ?_
      go_wp2_with fail
      refine (HD.out _ _ (by omega) (by omega)).mono ?_
      rintro e w6 ⟨rfl, hb6⟩
      have HB6 : Hid (Below wr.heap.size wr w6) := Lib.hid (HB5.out.trans (hb6.mono HB5.out.size))
      clear hb6
      go_wp2_with fail
      refine ⟨HB6.out, ?_⟩
      repeat (first | (refine plan_on _ (by rfl) (fun W hW => by (obtain ⟨y0, y1, y2, y3⟩ := HSK.out W hW; go_simp; try (first | with_reducible rfl | rw [if_neg (by omega)]))) ?_; simp only [Act.put, List.setIfInBounds_toArray, List.set_cons_zero, List.set_cons_succ]) | (refine plan_off (by rfl) ?_; simp only [Act.put, List.setIfInBounds_toArray, List.set_cons_zero, List.set_cons_succ]))
      refine plan_done ?_
      rw [HTK.out]
      have HBW : Hid (Below w.heap.size w w6) := Lib.hid (hbw.out.trans (HB6.out.mono hBr))
      go_wp2_with fail
      go_roundw
      case rel => exact ⟨k + 1, by omega, by go_num, rfl, HBW⟩
      case measure => simp [intOf]; omega
    · obtain rfl : m = k := by omega
      have HT : Hid (l.take m = l) := Lib.hid (by rw [← HM.out, List.take_length])
      go_wp2_with fail
      go_ret
      exact ⟨l, by rw [HT.out]; rfl, H.out.rows, hbw.out⟩

end Go.Proofs.YtobkgkiomapabaaGreatDoor

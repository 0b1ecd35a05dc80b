/- What a clock's text is, and how reading it line by line goes: plain; a map under a weaker look at its elements. -/
import Derived.Test.YtobkgkiomapabaaGreatDoorDcD
namespace Go.Proofs.YtobkgkiomapabaaGreatDoor
open Go.Shelf Go.RowKit Go.Maps
open Go.WideElems (Fit rd rg rd_val rd_mk rg_of)
set_option linter.unusedVariables false

/-! ### a map under a weaker look -/
theorem rd_weaken {H : Type} {P : Program} {k : TypeId} {R R2 : Value → Option (DataW H × List MemPlace)} (h : ∀ v y, R v = some y → R2 v = some y) {x : MapEntry} {y : Lit × DataW H} (hx : rd P k R x = some y) : rd P k R2 x = some y := by
  unfold rd at hx ⊢
  simp only [Option.bind_eq_some_iff, Option.map_eq_some_iff] at hx ⊢
  obtain ⟨key, h1, z, h2, h3⟩ := hx
  exact ⟨key, h1, z, h _ _ h2, h3⟩
theorem MapIs.weaken {P : Program} {k : TypeId} {ok ok2 : Value → Bool} {w : World} {b n : Nat} {M : Lit → Option Value} (h : MapIs P k ok w b n M) (h2 : ∀ v, ok v = true → ok2 v = true) : MapIs P k ok2 w b n M := by
  obtain ⟨D, ⟨es, clock, hb, F, hn, rfl⟩, hM⟩ := h
  have hR : ∀ v y, heldElem ok v = some y → heldElem ok2 v = some y := fun v y hv => by
    obtain ⟨h3, rfl⟩ := heldElem_inv hv
    exact heldElem_mk (h2 v h3)
  have hrd : ∀ x ∈ es.toList, ∃ y, rd P k (heldElem ok) x = some y ∧ rd P k (heldElem ok2) x = some y := fun x hx => by
    obtain ⟨y, hy⟩ := F.reads x hx
    exact ⟨y, hy, rd_weaken hR hy⟩
  have he : es.toList.map (rg P k (heldElem ok2)) = es.toList.map (rg P k (heldElem ok)) := List.map_congr_left (fun x hx => by
    obtain ⟨y, h3, h4⟩ := hrd x hx
    rw [rg_of h3, rg_of h4])
  refine ⟨_, ⟨es, clock, hb, ?_, hn, rfl⟩, fun kl => ?_⟩
  · exact { F with reads := fun x hx => (hrd x hx).imp (fun y hy => hy.2) }
  · rw [he]
    exact hM kl
/-- Any two numbers. -/
def anySrcL : List Value → Bool
  | [.int .i64 _, .int .i64 _] => true
  | _ => false
def anySrc : Value → Bool
  | .agg cs => anySrcL cs.toList
  | _ => false
theorem anySrc_mk (a b : Int) : anySrc (.agg #[.int .i64 a, .int .i64 b]) = true := rfl
theorem anySrc_of (v : Value) (h : okSrc v = true) : anySrc v = true := by
  obtain ⟨x, rfl, _⟩ := okSrc_inv h
  rfl

/-! ### what a clock's text is -/
structure Valid (c : Ck) (l : List Sc) : Prop where
  ok : c.Ok
  rows : Rows' c.src l
  name : ∀ x ∈ l, nameB x.1 = true
  last : ∀ x ∈ l, x.2.2 ≤ c.now
  told : ∀ m, Told c m true → m ≤ c.mark
def CodeOf (b : ByteArray) (c : Ck) (l : List Sc) : Prop := Valid c l ∧ b = encB c l
def linesB (l : List Sc) : ByteArray := ⟨(l.flatMap lineS).toArray⟩
theorem lines_nil : linesB [] = ⟨#[]⟩ := rfl
theorem lines_cons (x : Sc) (l : List Sc) : linesB (x :: l) = ⟨(lineC x.1 [x.2.1, x.2.2]).toArray⟩ ++ linesB l := by
  apply ba_eq
  unfold linesB
  simp [ByteArray.data_append, lineS]
theorem encB_lines (c : Ck) (l : List Sc) : encB c l = ⟨(lineC clockW [c.slack, c.idle, c.now, c.mark]).toArray⟩ ++ linesB l := by
  apply ba_eq
  unfold encB linesB headC
  simp [ByteArray.data_append]
theorem clockW_noC {c : UInt8} (hc : c = 32 ∨ c = 10) : NoC c clockW := noC_of (fun b hb e => by
  subst e
  have : b = 99 ∨ b = 108 ∨ b = 111 ∨ b = 99 ∨ b = 107 := by simpa [clockW] using hb
  rcases hc with rfl | rfl <;> revert this <;> decide)
theorem code_head {b : ByteArray} {c : Ck} {l : List Sc} (h : CodeOf b c l) : LineOk 4 b clockW [c.slack, c.idle, c.now, c.mark] ∧ restN b = linesB l := by
  obtain ⟨hv, rfl⟩ := h
  obtain ⟨s0, s1, i0, i1, n0, n1, m0, m1⟩ := hv.ok
  rw [encB_lines]
  exact line4_ok _ (clockW_noC (Or.inl rfl)) (clockW_noC (Or.inr rfl)) ⟨by omega, s1⟩ ⟨by omega, i1⟩ ⟨by omega, n1⟩ ⟨m0, m1⟩
theorem code_line {b : ByteArray} {c : Ck} {l : List Sc} (h : CodeOf b c l) {k : Nat} {x : Sc} (hx : l[k]? = some x) : LineOk 2 (linesB (l.drop k)) x.1 [x.2.1, x.2.2] ∧ restN (linesB (l.drop k)) = linesB (l.drop (k + 1)) := by
  obtain ⟨hv, _⟩ := h
  obtain ⟨hk, rfl⟩ := List.getElem?_eq_some_iff.1 hx
  have hm := List.getElem_mem hk
  obtain ⟨b1, b2, b3, b4, b5⟩ := hv.rows.ok _ hm
  have hn := hv.name _ hm
  rw [List.drop_eq_getElem_cons hk, lines_cons]
  exact line2_ok _ (name_noC hn (Or.inl rfl)) (name_noC hn (Or.inr rfl)) ⟨by omega, b2⟩ ⟨by omega, b4⟩
/-- What has been put, one behind the other. -/
def srcFold (l : List Sc) : List UInt8 → Option (Int × Int) := l.foldl (fun f x => put f x.1.data.toList x.2) (fun _ => none)
theorem srcFold_snoc (l : List Sc) (x : Sc) : srcFold (l ++ [x]) = put (srcFold l) x.1.data.toList x.2 := by
  unfold srcFold
  rw [List.foldl_append]
  rfl
theorem srcFold_mem : ∀ (n : Nat) (l : List Sc), l.length = n → l.Pairwise (fun x y => ltN x.1 y.1) → ∀ s x, srcFold l s = some x ↔ ∃ nm : ByteArray, nm.data.toList = s ∧ (nm, x) ∈ l
  | 0, l, hl, hp, s, x => by
    obtain rfl := List.length_eq_zero_iff.1 hl
    simp [srcFold]
  | n + 1, l, hl, hp, s, x => by
    obtain ⟨l', y, rfl⟩ : ∃ l' y, l = l' ++ [y] := ⟨l.dropLast, l.getLast (by rintro rfl; simp at hl), (List.dropLast_concat_getLast _).symm⟩
    have hp2 := List.pairwise_append.1 hp
    have ih := srcFold_mem n l' (by simpa using hl) hp2.1 s x
    rw [srcFold_snoc]
    unfold put
    by_cases e : s = y.1.data.toList
    · rw [if_pos e]
      constructor
      · intro h
        cases h
        exact ⟨y.1, e.symm, by simp⟩
      · rintro ⟨nm, h1, h2⟩
        rw [List.mem_append, List.mem_singleton] at h2
        rcases h2 with h2 | h2
        · have h3 := hp2.2.2 _ h2 y (by simp)
          have : nm = y.1 := ba_eq (h1.trans e)
          rw [this] at h3
          exact absurd h3 (ltN_irr _)
        · rw [← h2]
    · rw [if_neg e, ih]
      constructor
      · rintro ⟨nm, h1, h2⟩
        exact ⟨nm, h1, by simp [h2]⟩
      · rintro ⟨nm, h1, h2⟩
        rw [List.mem_append, List.mem_singleton] at h2
        rcases h2 with h2 | h2
        · exact ⟨nm, h1, h2⟩
        · exact absurd (by rw [← h2]; exact h1.symm) e
theorem srcFold_rows {f : List UInt8 → Option (Int × Int)} {l : List Sc} (h : Rows' f l) : srcFold l = f := by
  funext s
  have hm := srcFold_mem l.length l rfl h.asc s
  cases hf : f s with
  | none =>
    cases hg : srcFold l s with
    | none => rfl
    | some x =>
      obtain ⟨nm, rfl, h2⟩ := (hm x).1 hg
      rw [(h.mem nm x).2 h2] at hf
      cases hf
  | some x => exact (hm x).2 ⟨⟨s.toArray⟩, by simp, (h.mem _ _).1 (by simpa using hf)⟩

/-- How far reading is: of whatever clock's text this is. -/
def Track (b : ByteArray) (ok : Bool) (c : Ck) (rest : ByteArray) : Prop :=
  ∀ c0 l0, CodeOf b c0 l0 → ok = true ∧ c.slack = c0.slack ∧ c.idle = c0.idle ∧ c.now = c0.now ∧ c.mark = c0.mark ∧ ∃ k, k ≤ l0.length ∧ rest = linesB (l0.drop k) ∧ c.src = srcFold (l0.take k)
/-- A row of the sources' map is right. -/
def GoodSrc (c : Ck) : Prop := ∀ s x, c.src s = some x → ∃ nm : ByteArray, nm.data.toList = s ∧ nameB nm = true ∧ 0 ≤ x.1 ∧ x.1 ≤ 1099511627776 ∧ 0 ≤ x.2 ∧ x.2 ≤ 1099511627776 ∧ x.2 ≤ c.now
theorem track_head {b w : ByteArray} {lv : List Int} {s' : ByteArray} {ok' : Bool} {a0 a1 a2 a3 : Int} (h : LineR 4 b true w lv s' ok') (hl : lv = [a0, a1, a2, a3]) (ok2 : Bool) (h2 : ok2 = (ok' && decide (0 ≤ a0) && decide (0 ≤ a1) && decide (0 ≤ a2))) : Track b ok2 ⟨a0, a1, a2, a3, fun _ => none⟩ s' := by
  intro c0 l0 hc
  obtain ⟨h3, h4⟩ := code_head hc
  have ho := h.2.1 rfl ⟨_, _, h3⟩
  obtain ⟨_, h5, h6⟩ := h.1 ho
  obtain ⟨_, e⟩ := h5.one h3
  rw [hl] at e
  simp only [List.cons.injEq, and_true] at e
  obtain ⟨rfl, rfl, rfl, rfl⟩ := e
  have hok := hc.1.ok
  refine ⟨by rw [h2, ho, decide_eq_true hok.s0, decide_eq_true hok.i0, decide_eq_true hok.n0]; rfl, rfl, rfl, rfl, rfl, 0, Nat.zero_le _, by rw [h6, h4]; rfl, rfl⟩
theorem head_ok {b w : ByteArray} {lv : List Int} {s' : ByteArray} {ok' : Bool} {a0 a1 a2 a3 : Int} (h : LineR 4 b true w lv s' ok') (hl : lv = [a0, a1, a2, a3]) (h2 : (ok' && decide (0 ≤ a0) && decide (0 ≤ a1) && decide (0 ≤ a2)) = true) : (⟨a0, a1, a2, a3, fun _ => none⟩ : Ck).Ok := by
  simp only [Bool.and_eq_true, decide_eq_true_eq] at h2
  obtain ⟨⟨⟨h3, h4⟩, h5⟩, h6⟩ := h2
  obtain ⟨_, ⟨_, hp, _, _, h7⟩, _⟩ := h.1 h3
  subst hl
  have hb : ∀ (i : Nat) (v : Int), i < 4 → [a0, a1, a2, a3][i]? = some v → -1 ≤ v ∧ v ≤ 1099511627776 := fun i v hi hv => by
    obtain ⟨p, hpp⟩ : ∃ p, (partsS (headN b))[i + 1]? = some p := ⟨_, List.getElem?_eq_getElem (by omega)⟩
    obtain ⟨u, hu, hg⟩ := h7 i p hi hpp
    rw [hv] at hu
    cases hu
    exact hg.2
  have b0 := hb 0 a0 (by omega) rfl
  have b1 := hb 1 a1 (by omega) rfl
  have b2 := hb 2 a2 (by omega) rfl
  have b3 := hb 3 a3 (by omega) rfl
  exact ⟨h4, b0.2, h5, b1.2, h6, b2.2, b3.1, b3.2⟩
theorem track_line {b rest w : ByteArray} {c : Ck} {lv : List Int} {s' : ByteArray} {ok' : Bool} {x1 x2 : Int} (ht : Track b true c rest) (hr : rest ≠ ⟨#[]⟩) (h : LineR 2 rest true w lv s' ok') (hl : lv = [x1, x2]) (ok2 : Bool) (h2 : ok2 = (ok' && nameB w && decide (0 ≤ x1) && decide (0 ≤ x2) && decide (x2 ≤ c.now))) :
    Track b ok2 { c with src := put c.src w.data.toList (x1, x2) } s' := by
  intro c0 l0 hc
  obtain ⟨_, e1, e2, e3, e4, k, hk, hrest, hsrc⟩ := ht c0 l0 hc
  have hkl : k < l0.length := by
    rcases Nat.lt_or_ge k l0.length with h3 | h3
    · exact h3
    · rw [List.drop_eq_nil_of_le h3] at hrest
      exact absurd hrest hr
  obtain ⟨x, hx⟩ : ∃ x, l0[k]? = some x := ⟨_, List.getElem?_eq_getElem hkl⟩
  obtain ⟨h3, h4⟩ := code_line hc hx
  rw [← hrest] at h3 h4
  have ho := h.2.1 rfl ⟨_, _, h3⟩
  obtain ⟨_, h5, h6⟩ := h.1 ho
  obtain ⟨rfl, e⟩ := h5.one h3
  rw [hl] at e
  simp only [List.cons.injEq, and_true] at e
  obtain ⟨rfl, rfl⟩ := e
  have hm : x ∈ l0 := List.mem_of_getElem? hx
  obtain ⟨b1, b2, b3, b4, b5⟩ := hc.1.rows.ok _ hm
  have hn := hc.1.name _ hm
  have hla := hc.1.last _ hm
  refine ⟨by rw [h2, ho, hn, decide_eq_true b1, decide_eq_true b3, decide_eq_true (by rw [e3]; exact hla)]; rfl, e1, e2, e3, e4, k + 1, hkl, h6.trans h4, ?_⟩
  show put c.src _ _ = _
  rw [hsrc, List.take_add_one, hx]
  exact (srcFold_snoc _ _).symm
theorem line_good {rest w : ByteArray} {c : Ck} {lv : List Int} {s' : ByteArray} {ok' : Bool} {x1 x2 : Int} (hc : GoodSrc c) (h : LineR 2 rest true w lv s' ok') (hl : lv = [x1, x2]) (h2 : (ok' && nameB w && decide (0 ≤ x1) && decide (0 ≤ x2) && decide (x2 ≤ c.now)) = true) :
    GoodSrc { c with src := put c.src w.data.toList (x1, x2) } ∧ s'.size < rest.size ∧ x1 ≤ 1099511627776 ∧ x2 ≤ 1099511627776 ∧ 0 ≤ x1 ∧ 0 ≤ x2 ∧ nameB w = true := by
  simp only [Bool.and_eq_true, decide_eq_true_eq] at h2
  obtain ⟨⟨⟨⟨h3, h4⟩, h5⟩, h6⟩, h8⟩ := h2
  obtain ⟨_, ⟨hcut, hp, _, _, h7⟩, hs⟩ := h.1 h3
  subst hl
  have hb : ∀ (i : Nat) (v : Int), i < 2 → [x1, x2][i]? = some v → -1 ≤ v ∧ v ≤ 1099511627776 := fun i v hi hv => by
    obtain ⟨p, hpp⟩ : ∃ p, (partsS (headN rest))[i + 1]? = some p := ⟨_, List.getElem?_eq_getElem (by omega)⟩
    obtain ⟨u, hu, hg⟩ := h7 i p hi hpp
    rw [hv] at hu
    cases hu
    exact hg.2
  have b0 := hb 0 x1 (by omega) rfl
  have b1 := hb 1 x2 (by omega) rfl
  refine ⟨fun s y hy => ?_, by rw [hs]; exact rest_less hcut, b0.2, b1.2, h5, h6, h4⟩
  change put c.src _ _ s = some y at hy
  unfold put at hy
  by_cases e : s = w.data.toList
  · rw [if_pos e] at hy
    cases hy
    exact ⟨w, e.symm, h4, h5, b0.2, h6, b1.2, h8⟩
  · rw [if_neg e] at hy
    exact hc s y hy

/-! ### the end -/
/-- The rows of a clock whose sources are right, by its names. -/
theorem rows_of_keys {c : Ck} {ks : List (List UInt8)} (hg : GoodSrc c) (hk : KeysOf' (fun s => (c.src s).isSome) ks) : ∃ l, Rows' c.src l ∧ (∀ x ∈ l, nameB x.1 = true) ∧ (∀ x ∈ l, x.2.2 ≤ c.now) ∧ (encC c ks) = (encB c l).data.toList := by
  have hmem : ∀ s, s ∈ ks ↔ (c.src s).isSome = true := fun s => hk.mem s
  have hasc : ks.Pairwise (fun a b => a < b) := by
    obtain ⟨ss, rfl, hn, _⟩ := hk
    have tr : ∀ a b c : List UInt8, decide (a ≤ b) = true → decide (b ≤ c) = true → decide (a ≤ c) = true := fun a b c h1 h2 => by simp only [decide_eq_true_eq] at *; exact List.le_trans h1 h2
    have tot : ∀ a b : List UInt8, (decide (a ≤ b) || decide (b ≤ a)) = true := fun a b => by simp only [Bool.or_eq_true, decide_eq_true_eq]; exact List.le_total a b
    have h1 := List.pairwise_mergeSort tr tot ss
    have h2 : (ss.mergeSort fun x y => decide (x ≤ y)).Nodup := ((List.mergeSort_perm ss _).nodup_iff).2 hn
    have h3 := h1.and (List.nodup_iff_pairwise_ne.1 h2)
    refine h3.imp (fun h => ?_)
    simp only [decide_eq_true_eq] at h
    exact Std.lt_of_le_of_ne h.1 h.2
  have hsrc : ∀ s ∈ ks, c.src s = some (srcOf c s) := fun s hs => by
    obtain ⟨x, hx⟩ := Option.isSome_iff_exists.1 ((hmem s).1 hs)
    unfold srcOf
    rw [hx]
    rfl
  have hgood : ∀ s ∈ ks, nameB ⟨s.toArray⟩ = true ∧ 0 ≤ (srcOf c s).1 ∧ (srcOf c s).1 ≤ 1099511627776 ∧ 0 ≤ (srcOf c s).2 ∧ (srcOf c s).2 ≤ 1099511627776 ∧ (srcOf c s).2 ≤ c.now := fun s hs => by
    obtain ⟨nm, rfl, h1, h2⟩ := hg s _ (hsrc s hs)
    have : (⟨nm.data.toList.toArray⟩ : ByteArray) = nm := ba_eq (by simp)
    rw [this]
    exact ⟨h1, h2⟩
  have hrows : Rows' c.src (ks.map fun s => ((⟨s.toArray⟩ : ByteArray), srcOf c s)) := by
    refine ⟨?_, fun s x => ?_, fun x hx => ?_⟩
    · refine List.pairwise_map.2 (hasc.imp (fun h => ?_))
      show _ < _
      simpa using h
    · constructor
      · intro h
        have hs : s.data.toList ∈ ks := (hmem _).2 (by rw [h]; rfl)
        refine List.mem_map.2 ⟨_, hs, ?_⟩
        have h1 := hsrc _ hs
        rw [h] at h1
        injection h1 with h1
        rw [h1]
      · intro h
        obtain ⟨s', hs, e⟩ := List.mem_map.1 h
        have e1 : (⟨s'.toArray⟩ : ByteArray) = s := congrArg Prod.fst e
        have e2 : srcOf c s' = x := congrArg Prod.snd e
        rw [← e1, ← e2]
        simpa using hsrc s' hs
    · obtain ⟨s', hs, rfl⟩ := List.mem_map.1 hx
      obtain ⟨h1, h2, h3, h4, h5, _⟩ := hgood s' hs
      exact ⟨h2, h3, h4, h5, nameB_24 h1⟩
  refine ⟨_, hrows, fun x hx => ?_, fun x hx => ?_, ?_⟩
  · obtain ⟨s', hs, rfl⟩ := List.mem_map.1 hx
    exact (hgood s' hs).1
  · obtain ⟨s', hs, rfl⟩ := List.mem_map.1 hx
    exact (hgood s' hs).2.2.2.2.2
  · have := enc_rows hrows
    rw [← keys_rows hk hrows] at this
    rw [this]
    unfold encB
    simp
theorem track_end {b : ByteArray} {c : Ck} (ht : Track b true c ⟨#[]⟩) {c0 : Ck} {l0 : List Sc} (h : CodeOf b c0 l0) : c0 = c := by
  obtain ⟨_, e1, e2, e3, e4, k, hk, hrest, hsrc⟩ := ht c0 l0 h
  have hk2 : l0.length ≤ k := by
    rcases Nat.lt_or_ge k l0.length with h3 | h3
    · rw [List.drop_eq_getElem_cons h3, lines_cons] at hrest
      have h4 : (⟨#[]⟩ : ByteArray).size = ((⟨(lineC (l0[k]'h3).1 [(l0[k]'h3).2.1, (l0[k]'h3).2.2]).toArray⟩ : ByteArray) ++ linesB (l0.drop (k + 1))).size := congrArg ByteArray.size hrest
      rw [ba_size] at h4
      have h5 : (⟨(lineC (l0[k]'h3).1 [(l0[k]'h3).2.1, (l0[k]'h3).2.2]).toArray⟩ : ByteArray).size ≠ 0 := by
        unfold lineC
        show (Array.size _) ≠ 0
        simp
      have h6 : (⟨#[]⟩ : ByteArray).size = 0 := rfl
      omega
    · exact h3
  rw [List.take_of_length_le hk2, srcFold_rows h.1.rows] at hsrc
  obtain ⟨a, i, n, m, s⟩ := c
  obtain ⟨a', i', n', m', s'⟩ := c0
  dsimp only at e1 e2 e3 e4 hsrc
  subst e1 e2 e3 e4 hsrc
  rfl
theorem end_same {b : ByteArray} {c : Ck} {ks : List (List UInt8)} (ht : Track b true c ⟨#[]⟩) (hk : KeysOf' (fun s => (c.src s).isSome) ks) {c0 : Ck} {l0 : List Sc} (h : CodeOf b c0 l0) : (encC c ks) = b.data.toList := by
  obtain rfl := track_end ht h
  obtain ⟨hv, rfl⟩ := h
  rw [keys_rows hk hv.rows, enc_rows hv.rows]
  unfold encB
  simp

end Go.Proofs.YtobkgkiomapabaaGreatDoor

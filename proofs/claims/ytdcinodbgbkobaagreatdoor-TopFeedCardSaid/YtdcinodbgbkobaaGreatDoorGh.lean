/- FeedOrders: the walk. FeedLeads: the walk. -/
import Derived.Test.YtdcinodbgbkobaaGreatDoorGg
namespace Go.Proofs.YtdcinodbgbkobaaGreatDoor
section
open Go.Shelf Go.RowKit Go.Maps
set_option linter.unusedVariables false

theorem head_size (s : ByteArray) : (headP s).size ≤ s.size := by
  have h : (Lib.cut s.data.toList [59]).1.length ≤ s.data.toList.length := by
    unfold Lib.cut
    split
    · show (List.take _ _).length ≤ _
      rw [List.length_take]; omega
    · exact Nat.le_refl _
  show (Lib.cut s.data.toList [59]).1.toArray.size ≤ _
  simpa using h
theorem rest_size (s : ByteArray) : (restP s).size ≤ s.size := by
  have h : (Lib.cut s.data.toList [59]).2.1.length ≤ s.data.toList.length := by
    unfold Lib.cut
    split
    · show (List.drop _ _).length ≤ _
      rw [List.length_drop]; omega
    · exact Nat.zero_le _
  show (Lib.cut s.data.toList [59]).2.1.toArray.size ≤ _
  simpa using h
def StSh (s : St) : Prop := s.item.maker.size ≤ 1000000 ∧ s.item.tags.size ≤ 1000000
theorem st0_sh (n : ByteArray) : StSh (st0 n) := ⟨by show 0 ≤ 1000000; omega, by show 0 ≤ 1000000; omega⟩
theorem step_sh {s : St} {e : Ev} (hs : StSh s) (he : e.text.size ≤ 1000000) : StSh (stepSt s e) := by
  unfold stepSt
  split
  · exact ⟨Nat.le_trans (head_size _) he, Nat.le_trans (rest_size _) he⟩
  · split
    · exact hs
    · exact hs
theorem fold_sh (l : List Ev) (hl : ∀ e ∈ l, e.text.size ≤ 1000000) : ∀ r : List St, (∀ s ∈ r, StSh s) → ∀ s ∈ l.foldl rowStep r, StSh s := by
  induction l with
  | nil => intro r hr; exact hr
  | cons e l ih =>
    intro r hr
    rw [List.foldl_cons]
    refine ih (fun x hx => hl x (List.mem_cons_of_mem _ hx)) _ (fun s hs => ?_)
    unfold rowStep at hs
    rcases List.mem_append.1 hs with hs | hs
    · exact hr s hs
    · obtain rfl : s = _ := by simpa using hs
      refine step_sh ?_ (hl e (by simp))
      cases h : r.getLast? with
      | none => exact st0_sh _
      | some y => exact hr y (List.mem_of_getLast? h)
theorem at_sh {es : List Ev} (hes : ∀ e ∈ es, EvSh e) {n : ByteArray} {t : Int} (hn : n.size ≤ 1000000) : ItSh ((atP es n t).getD it0) := by
  cases h : atP es n t with
  | none => exact ⟨by show 0 ≤ 1000000; omega, by show 0 ≤ 1000000; omega, by show 0 ≤ 1000000; omega⟩
  | some x =>
    have hnm := at_name h
    unfold atP at h
    obtain ⟨s, hs, rfl⟩ := Option.map_eq_some_iff.1 h
    have h1 : s ∈ rowOf es n := (List.takeWhile_sublist _).subset (List.mem_of_getLast? hs)
    have h2 := fold_sh _ (fun e he => (hes e (List.mem_filter.1 he).1).2.2.2) [] (fun s hs => by cases hs) s h1
    exact ⟨by show s.item.name.size ≤ 1000000; rw [hnm]; exact hn, h2.1, h2.2⟩
theorem EvSmall.sh3 {e : Ev} (h : EvSmall e) : EvSh e := by unfold EvSmall at h; unfold EvSh; omega
theorem its_sh {l : List Ro} (h : ∀ r ∈ l, RoFew r) : ∀ x ∈ itsOf l, ItSh x := by
  intro x hx
  unfold itsOf at hx
  obtain ⟨i, hi, rfl⟩ := List.mem_mapIdx.1 hx
  have := h _ (List.getElem_mem hi)
  unfold RoFew at this
  exact ⟨by show l[i].name.size ≤ 1000000; omega, by show l[i].maker.size ≤ 1000000; omega, by show l[i].tags.size ≤ 1000000; omega⟩
theorem ro_one (l : List Ro) : ∀ u ∈ l.flatMap roC, u.oneCell' = true := by
  intro u hu
  obtain ⟨r, _, hr⟩ := List.mem_flatMap.1 hu
  simp only [roC, List.mem_cons, List.not_mem_nil, or_false] at hr
  rcases hr with rfl | rfl | rfl | rfl | rfl <;> rfl
theorem ro_drop (l : List Ro) (k : Nat) : (l.flatMap roC).drop (k * 5) = (l.drop k).flatMap roC := by
  induction k generalizing l with
  | zero => simp
  | succ k ih =>
    cases l with
    | nil => simp
    | cons a l =>
      rw [List.flatMap_cons, List.drop_succ_cons, ← ih l, show (k + 1) * 5 = 5 + k * 5 from by omega, ← List.drop_drop]
      rfl
theorem ro_take (l : List Ro) (k : Nat) : (l.flatMap roC).take (k * 5) = (l.take k).flatMap roC := by
  induction k generalizing l with
  | zero => simp
  | succ k ih =>
    cases l with
    | nil => simp
    | cons a l =>
      rw [List.flatMap_cons, List.take_succ_cons, List.flatMap_cons, ← ih l, show (k + 1) * 5 = 5 + k * 5 from by omega, List.take_append, roC_len, show 5 + k * 5 - 5 = k * 5 from by omega, List.take_of_length_le (by rw [roC_len]; omega)]


end

section
open Go.Shelf Go.RowKit Go.Maps
set_option linter.unusedVariables false

/-! ### the text of a listing -/
theorem name_chars {s : ByteArray} (h : nameB s = true) : ∀ (j : Nat) b, s.data.toList[j]? = some b → b ≠ 59 := by
  intro j b hj e
  subst e
  unfold nameB at h
  rw [Bool.and_eq_true, List.all_eq_true] at h
  have := h.2 59 (List.mem_of_getElem? hj)
  simp [okN] at this
theorem list_semi {m t : ByteArray} (h : nameB m = true) : semiAt (m ++ ⟨#[59]⟩ ++ t) m.size := by
  have hd : (m ++ ⟨#[59]⟩ ++ t : ByteArray).data.toList = m.data.toList ++ (59 :: t.data.toList) := by simp
  unfold semiAt
  rw [hd]
  refine ⟨by rw [List.getElem?_append_right (by simp)]; simp, fun j b hj hb => ?_⟩
  rw [List.getElem?_append_left (by simpa using hj)] at hb
  exact name_chars h j b hb
theorem list_cut {m t : ByteArray} (h : nameB m = true) : headP (m ++ ⟨#[59]⟩ ++ t) = m ∧ restP (m ++ ⟨#[59]⟩ ++ t) = t ∧ cutsP (m ++ ⟨#[59]⟩ ++ t) = true := by
  obtain ⟨h1, h2, h3⟩ := cut_hit (list_semi (t := t) h)
  have hsz : (m ++ ⟨#[59]⟩ ++ t : ByteArray).size = m.size + 1 + t.size := by rw [ByteArray.size_append, ByteArray.size_append]; rfl
  refine ⟨?_, ?_, h3⟩
  · rw [h1]
    apply ba_eq
    simp
  · rw [h2, hsz]
    apply ba_eq
    have e1 : m.data.toList.length = m.size := by simp
    have e2 : t.data.toList.length = t.size := by simp
    simp
    rw [← e1, List.drop_of_length_le (by simp), List.take_nil, List.nil_append, ← e2, List.take_length]

/-! ### states -/
def lastS (r : List St) (n : ByteArray) : St := r.getLast?.getD (st0 n)
theorem lastS_fold (n : ByteArray) : ∀ (L : List Ev) (r : List St), (∀ e ∈ L, e.item = n) → lastS (L.foldl rowStep r) n = L.foldl stepSt (lastS r n)
  | [], r, _ => rfl
  | e :: L, r, h => by
    rw [List.foldl_cons, List.foldl_cons, lastS_fold n L _ (fun x hx => h x (List.mem_cons_of_mem _ hx))]
    congr 1
    unfold rowStep lastS
    rw [List.getLast?_append]
    simp [h e (by simp)]
theorem stepSt_num (s : St) (e : Ev) (k : Int) : stepSt s (setNum e k) = stepSt s e := rfl
theorem fold_num (P : Ev → Bool) (hP : ∀ e k, P (setNum e k) = P e) : ∀ (L : List Ev) (g : Nat → Int) (s : St), ((L.mapIdx fun i e => setNum e (g i)).filter P).foldl stepSt s = (L.filter P).foldl stepSt s
  | [], g, s => rfl
  | e :: L, g, s => by
    rw [List.mapIdx_cons, List.filter_cons, List.filter_cons, hP]
    by_cases h : P e = true
    · rw [if_pos h, if_pos h, List.foldl_cons, List.foldl_cons, stepSt_num]
      exact fold_num P hP L (fun i => g (i + 1)) _
    · rw [if_neg h, if_neg h]
      exact fold_num P hP L (fun i => g (i + 1)) _
open Classical in
theorem raw_of (es : List Ev) (t : Int) (src : ByteArray) (l : List Ro) (y : ByteArray) : ∀ (ns : List ByteArray), ns.Nodup → (rawD es t src l ns).filter (fun e => decide (e.item = y)) = if y ∈ ns then (tellsOf es t l y).map (mkE src 0 t y) else []
  | [], _ => by rw [if_neg (by simp)]; rfl
  | n :: ns, hd => by
    rw [List.nodup_cons] at hd
    have ih := raw_of es t src l y ns hd.2
    show (List.flatMap _ (n :: ns)).filter _ = _
    rw [List.flatMap_cons, List.filter_append]
    have ih' : (List.flatMap (fun n => (tellsOf es t l n).map (mkE src 0 t n)) ns).filter (fun e => decide (e.item = y)) = if y ∈ ns then (tellsOf es t l y).map (mkE src 0 t y) else [] := ih
    rw [ih']
    by_cases h : n = y
    · subst h
      rw [if_neg hd.1, List.append_nil, if_pos (by simp), List.filter_eq_self.2]
      intro e he
      obtain ⟨p, _, rfl⟩ := List.mem_map.1 he
      simp [mkE]
    · have h0 : ((tellsOf es t l n).map (mkE src 0 t n)).filter (fun e => decide (e.item = y)) = [] := by
        rw [List.filter_eq_nil_iff]
        intro e he
        obtain ⟨p, _, rfl⟩ := List.mem_map.1 he
        simp [mkE, h]
      rw [h0, List.nil_append]
      have : y ∈ n :: ns ↔ y ∈ ns := by
        rw [List.mem_cons]
        exact ⟨fun h2 => h2.elim (fun h3 => absurd h3.symm h) id, Or.inr⟩
      simp only [this]

theorem at_lastS {es : List Ev} {t : Int} (h : ∀ e ∈ es, e.tick ≤ t) (y : ByteArray) : (atP es y t = none ∧ lastS (rowOf es y) y = st0 y) ∨ atP es y t = some (lastS (rowOf es y) y).item := by
  rw [at_all h]
  unfold lastS
  cases (rowOf es y).getLast? with
  | none => exact Or.inl ⟨rfl, rfl⟩
  | some s => exact Or.inr rfl
open Classical in
/-- The state behind what was told. -/
theorem lead_state {es : List Ev} {t n : Int} {src : ByteArray} {l : List Ro} {ns : List ByteArray} (hns : NamesD es t l ns) (y : ByteArray) : lastS (rowOf (es ++ numD n (rawD es t src l ns)) y) y = if y ∈ ns then ((tellsOf es t l y).map (mkE src 0 t y)).foldl stepSt (lastS (rowOf es y) y) else lastS (rowOf es y) y := by
  have h1 : rowOf (es ++ numD n (rawD es t src l ns)) y = (ofN (numD n (rawD es t src l ns)) y).foldl rowStep (rowOf es y) := by
    unfold rowOf ofN
    rw [List.filter_append, List.foldl_append]
  rw [h1, lastS_fold y (ofN (numD n (rawD es t src l ns)) y) _ (fun e he => of_decide_eq_true (List.mem_filter.1 he).2)]
  unfold ofN numD
  rw [fold_num (fun e => decide (e.item = y)) (fun _ _ => rfl), raw_of es t src l y ns hns.nodup]
  split <;> rfl

/-- As a row says. -/
def AsRow (x : It) (r : Ro) : Prop := x.listed = true ∧ x.maker = r.maker ∧ x.tags = r.tags ∧ x.price = r.price ∧ x.stock = r.stock
theorem tell_state {s : St} {x : It} {r : Ro} {src y : ByteArray} {t : Int} (hm : nameB r.maker = true) (hx : x.listed = s.item.listed ∧ x.maker = s.item.maker ∧ x.tags = s.item.tags ∧ x.price = s.item.price ∧ x.stock = s.item.stock) : AsRow (((tell1 x (some r)).map (mkE src 0 t y)).foldl stepSt s).item r := by
  obtain ⟨h1, h2, h3, h4, h5⟩ := hx
  obtain ⟨c1, c2, _⟩ := list_cut (t := r.tags) hm
  unfold tell1
  dsimp only
  by_cases hc : x.listed = true ∧ x.maker = r.maker ∧ x.tags = r.tags ∧ x.price = r.price
  · rw [if_pos hc, List.nil_append]
    obtain ⟨k1, k2, k3, k4⟩ := hc
    by_cases hs : x.stock = r.stock
    · rw [if_pos hs]
      exact ⟨h1 ▸ k1, h2 ▸ k2, h3 ▸ k3, h4 ▸ k4, h5 ▸ hs⟩
    · rw [if_neg hs]
      exact ⟨h1 ▸ k1, h2 ▸ k2, h3 ▸ k3, h4 ▸ k4, rfl⟩
  · rw [if_neg hc]
    by_cases hs : x.stock = r.stock
    · rw [if_pos hs]
      exact ⟨rfl, c1, c2, rfl, h5 ▸ hs⟩
    · rw [if_neg hs]
      exact ⟨rfl, c1, c2, rfl, rfl⟩

theorem get_same {es : List Ev} {t : Int} (h : ∀ e ∈ es, e.tick ≤ t) (y : ByteArray) : ((atP es y t).getD it0).listed = (lastS (rowOf es y) y).item.listed ∧ ((atP es y t).getD it0).maker = (lastS (rowOf es y) y).item.maker ∧ ((atP es y t).getD it0).tags = (lastS (rowOf es y) y).item.tags ∧ ((atP es y t).getD it0).price = (lastS (rowOf es y) y).item.price ∧ ((atP es y t).getD it0).stock = (lastS (rowOf es y) y).item.stock := by
  rcases at_lastS h y with ⟨h1, h2⟩ | h1
  · rw [h1, h2]; exact ⟨rfl, rfl, rfl, rfl, rfl⟩
  · rw [h1]; exact ⟨rfl, rfl, rfl, rfl, rfl⟩

section
variable {es : List Ev} {t n : Int} {src : ByteArray} {l : List Ro} {ns : List ByteArray}
theorem num_tick (hes : ∀ e ∈ es, e.tick < t) : ∀ e ∈ es ++ numD n (rawD es t src l ns), e.tick ≤ t := by
  intro e he
  rcases List.mem_append.1 he with h | h
  · have := hes e h; omega
  · unfold numD at h
    obtain ⟨i, hi, rfl⟩ := List.mem_mapIdx.1 h
    have h2 := List.getElem_mem hi
    unfold rawD at h2
    obtain ⟨y, _, h3⟩ := List.mem_flatMap.1 h2
    obtain ⟨p, _, h4⟩ := List.mem_map.1 h3
    show ((rawD es t src l ns)[i]).tick ≤ t
    rw [show (rawD es t src l ns)[i] = mkE src 0 t y p from h4.symm]
    exact Int.le_refl _
/-- What was told, applied, makes it as the list says. -/
theorem lead_at (hes : ∀ e ∈ es, e.tick < t) (hok : okL l = true) (hns : NamesD es t l ns) (y : ByteArray) : (findR l y = none ∧ whB (es ++ numD n (rawD es t src l ns)) t (fun _ => true) y = false) ∨ ∃ r x, findR l y = some r ∧ atP (es ++ numD n (rawD es t src l ns)) y t = some x ∧ AsRow x r ∧ x.name = y := by
  have hst := lead_state (n := n) (src := src) hns y
  have hle := num_tick (n := n) (src := src) (l := l) (ns := ns) hes
  have hes' : ∀ e ∈ es, e.tick ≤ t := fun e he => by have := hes e he; omega
  have hat := at_lastS hle y
  cases hf : findR l y with
  | none =>
    refine Or.inl ⟨rfl, ?_⟩
    by_cases hy : y ∈ ns
    · rw [if_pos hy] at hst
      have h2 : (lastS (rowOf (es ++ numD n (rawD es t src l ns)) y) y).item.listed = false := by
        rw [hst]
        unfold tellsOf
        rw [hf]
        rfl
      unfold whB
      rcases hat with ⟨h3, _⟩ | h3
      · rw [h3]
      · rw [h3]; simp [h2]
    · rw [if_neg hy] at hst
      have h0 : whB es t (fun _ => true) y = false := by
        cases hw : whB es t (fun _ => true) y
        · rfl
        · exact absurd ((hns.2 y).2 (by show (whB es t (fun _ => true) y || _) = true; rw [hw]; rfl)) hy
      rw [hst] at hat
      unfold whB at h0 ⊢
      rcases hat with ⟨h3, _⟩ | h3
      · rw [h3]
      · rw [h3]
        rcases at_lastS hes' y with ⟨h4, h5⟩ | h4
        · rw [h5]; rfl
        · rw [h4] at h0; exact h0
  | some r =>
    refine Or.inr ⟨r, ?_⟩
    have hy : y ∈ ns := (hns.2 y).2 (by show (_ || (findR l y).isSome) = true; rw [hf]; simp)
    have hm : nameB r.maker = true := by
      have := ((okL_iff l).1 hok).1 r (findR_some hf).1
      unfold mayR at this
      simp only [Bool.and_eq_true] at this
      exact this.2.1
    rw [if_pos hy] at hst
    have hA : AsRow (lastS (rowOf (es ++ numD n (rawD es t src l ns)) y) y).item r := by
      rw [hst]
      unfold tellsOf
      rw [hf]
      exact tell_state hm (get_same hes' y)
    rcases hat with ⟨_, h4⟩ | h3
    · rw [h4] at hA
      exact absurd hA.1 (by show ¬ (false = true); decide)
    · exact ⟨_, rfl, h3, hA, at_name h3⟩

/-- The names are those of the list. -/
theorem lead_wh (hes : ∀ e ∈ es, e.tick < t) (hok : okL l = true) (hns : NamesD es t l ns) (y : ByteArray) : whB (es ++ numD n (rawD es t src l ns)) t (fun _ => true) y = (findR l y).isSome := by
  rcases lead_at (n := n) (src := src) hes hok hns y with ⟨h1, h2⟩ | ⟨r, x, h1, h2, h3, _⟩
  · rw [h1, h2]; rfl
  · rw [h1]
    unfold whB
    rw [h2]
    simp [h3.1]
theorem lead_names (hes : ∀ e ∈ es, e.tick < t) (hok : okL l = true) (hns : NamesD es t l ns) {ks : List ByteArray} (hk : IsNames (whB (es ++ numD n (rawD es t src l ns)) t (fun _ => true)) ks) : ks.length = l.length := by
  have hp : ks.Perm (l.map (·.name)) := (List.perm_ext_iff_of_nodup hk.nodup ((okL_iff l).1 hok).2.1).2 (fun y => by rw [hk.2, lead_wh hes hok hns, findR_isSome])
  rw [hp.length_eq, List.length_map]
/-- Then there is nothing more to tell. -/
theorem lead_none (hes : ∀ e ∈ es, e.tick < t) (hok : okL l = true) (hns : NamesD es t l ns) {m : Int} {o : List Ev} (h : IsDiff (es ++ numD n (rawD es t src l ns)) t src m l o) : o = [] := by
  cases hgo : goesD l src t m
  · exact h.1 hgo
  · obtain ⟨ns', hns'⟩ := names_ex (es ++ numD n (rawD es t src l ns)) t l
    have hdef : ∀ es, rawD es t src l ns' = ns'.flatMap fun n => (tellsOf es t l n).map (mkE src 0 t n) := fun _ => rfl
    have hraw : rawD (es ++ numD n (rawD es t src l ns)) t src l ns' = [] := by
      rw [hdef (es ++ _), List.flatMap_eq_nil_iff]
      intro y hy
      have h1 : (whB (es ++ numD n (rawD es t src l ns)) t (fun _ => true) y || (findR l y).isSome) = true := (hns'.2 y).1 hy
      rcases lead_at (n := n) (src := src) hes hok hns y with ⟨h2, h3⟩ | ⟨r, x, h2, h3, ⟨a1, a2, a3, a4, a5⟩, _⟩
      · rw [h2, h3] at h1
        cases h1
      · unfold tellsOf
        rw [h2, h3]
        simp [tell1, a1, a2, a3, a4, a5]
    have := h.2 hgo ns' hns'
    rw [hraw] at this
    simpa [numD] using this
end

/-! ### all of them are taken -/
theorem raw_cat {es : List Ev} {t : Int} {src : ByteArray} {l : List Ro} {ns : List ByteArray} (hc : ∀ e ∈ es, catB e = true) (hsrc : nameB src = true) (ht : 0 ≤ t ∧ t ≤ 1099511627776) (hok : okL l = true) (hns : NamesD es t l ns) (k : Int) (hk : 1 ≤ k ∧ k ≤ 1099511627776) : ∀ e ∈ rawD es t src l ns, catB (setNum e k) = true := by
  intro e he
  unfold rawD at he
  obtain ⟨y, hy, h3⟩ := List.mem_flatMap.1 he
  obtain ⟨p, hp, rfl⟩ := List.mem_map.1 h3
  have h1 : (whB es t (fun _ => true) y || (findR l y).isSome) = true := (hns.2 y).1 hy
  unfold tellsOf at hp
  cases hf : findR l y with
  | none =>
    rw [hf] at hp h1
    have h2 : whB es t (fun _ => true) y = true := by simpa using h1
    obtain ⟨e, he', rfl⟩ := List.mem_map.1 (wh_item h2)
    have hn : nameB e.item = true := by
      have := hc e he'
      have hk := this
      unfold catB mayB kindB at this
      rcases (show e.kind = 11 ∨ e.kind = 12 ∨ e.kind = 13 from by unfold catB at hk; rw [Bool.and_eq_true] at hk; exact of_decide_eq_true hk.2) with h | h | h <;> simp [h] at this
      all_goals simp_all
    simp [tell1] at hp
    subst hp
    simp [catB, mayB, kindB, mkE, setNum, hsrc, hk, ht, hn, empB]
  | some r =>
    rw [hf] at hp
    obtain ⟨hr, hnm⟩ := findR_some hf
    have hmr := ((okL_iff l).1 hok).1 r hr
    unfold mayR at hmr
    simp only [Bool.and_eq_true] at hmr
    obtain ⟨m1, m2, m3, m4, m5⟩ := hmr
    rw [hnm] at m1
    unfold withB at m3 m4
    rw [decide_eq_true_iff] at m3 m4
    unfold tagsOkB at m5
    rw [Bool.and_eq_true, decide_eq_true_iff] at m5
    obtain ⟨c1, c2, c3⟩ := list_cut (t := r.tags) m2
    have hev : evTags (r.maker ++ ⟨#[59]⟩ ++ r.tags) = tagsOf r.tags := by rw [tagsOf_eq]; unfold evTags; rw [c2]
    have hl : listB (r.maker ++ ⟨#[59]⟩ ++ r.tags) = true := by
      unfold listB
      rw [c3, c1, m2, hev, m5.2]
      simp [m5.1]
    unfold tell1 at hp
    dsimp only at hp
    rcases List.mem_append.1 hp with hp | hp
    · split at hp
      · cases hp
      · rw [List.mem_singleton] at hp
        subst hp
        simp [catB, mayB, kindB, mkE, setNum, hsrc, hk, ht, m1, m3, hl, empB]
    · split at hp
      · cases hp
      · rw [List.mem_singleton] at hp
        subst hp
        simp [catB, mayB, kindB, mkE, setNum, hsrc, hk, ht, m1, m4, empB]


theorem num_get {n : Int} {L : List Ev} {i : Nat} {e : Ev} (h : (numD n L)[i]? = some e) : ∃ e0, L[i]? = some e0 ∧ e = setNum e0 (IntKind.i64.wrap (n + i)) := by
  unfold numD at h
  rw [List.getElem?_mapIdx] at h
  obtain ⟨e0, h1, h2⟩ := Option.map_eq_some_iff.1 h
  exact ⟨e0, h1, h2.symm⟩
theorem raw_mem {es : List Ev} {t : Int} {src : ByteArray} {l : List Ro} {ns : List ByteArray} {e : Ev} (h : e ∈ rawD es t src l ns) : e.tick = t ∧ e.src = src := by
  unfold rawD at h
  obtain ⟨y, _, h3⟩ := List.mem_flatMap.1 h
  obtain ⟨p, _, rfl⟩ := List.mem_map.1 h3
  exact ⟨rfl, rfl⟩
section
variable {es : List Ev} {t n : Int} {src : ByteArray} {l : List Ro} {ns : List ByteArray}
theorem lead_takes (hes : ∀ e ∈ es, e.tick < t) (hc : ∀ e ∈ es, catB e = true) (hsrc : nameB src = true) (ht : 0 ≤ t ∧ t ≤ 1099511627776) (hok : okL l = true) (hns : NamesD es t l ns) (hn : 1 ≤ n ∧ n ≤ 1073741824) (hl : (rawD es t src l ns).length ≤ 100000) {i : Nat} {e : Ev} (h : (numD n (rawD es t src l ns))[i]? = some e) :
    takesB (es ++ (numD n (rawD es t src l ns)).take i) e = true ∧ e.num = n + i := by
  obtain ⟨e0, h0, rfl⟩ := num_get h
  have hi := (List.getElem?_eq_some_iff.1 h0).1
  have hw : IntKind.i64.wrap (n + i) = n + i := IntWalk.i64_in _ (by omega)
  rw [hw]
  refine ⟨(takes_iff _ _).2 ⟨raw_cat hc hsrc ht hok hns _ (by omega) e0 (List.mem_of_getElem? h0), fun x hx => ?_⟩, rfl⟩
  obtain ⟨t1, s1⟩ := raw_mem (List.mem_of_getElem? h0)
  rcases List.mem_append.1 (List.mem_of_getLast? hx) with h2 | h2
  · refine Or.inl ?_
    show x.tick < e0.tick
    rw [t1]
    exact hes x h2
  · obtain ⟨j, hj⟩ := List.mem_iff_getElem?.1 h2
    rw [List.getElem?_take] at hj
    split at hj
    · rename_i hji
      obtain ⟨x0, hx0, rfl⟩ := num_get hj
      obtain ⟨t2, s2⟩ := raw_mem (List.mem_of_getElem? hx0)
      have hw2 : IntKind.i64.wrap (n + j) = n + j := IntWalk.i64_in _ (by omega)
      rw [hw2]
      refine Or.inr ⟨?_, Or.inr ⟨?_, ?_⟩⟩
      · show x0.tick = e0.tick
        rw [t1, t2]
      · show x0.src = e0.src
        rw [s1, s2]
      · show n + (j : Int) < n + (i : Int)
        omega
    · cases hj
theorem raw_sh (hes : ∀ e ∈ es, EvSh e) (hsrc : src.size ≤ 1000000) (hl : ∀ r ∈ l, RoFew r) (hns : NamesD es t l ns) : ∀ e ∈ rawD es t src l ns, ∀ k : Int, EvSh (setNum e k) := by
  intro e he k
  unfold rawD at he
  obtain ⟨y, hy, h3⟩ := List.mem_flatMap.1 he
  obtain ⟨p, hp, rfl⟩ := List.mem_map.1 h3
  have h1 : (whB es t (fun _ => true) y || (findR l y).isSome) = true := (hns.2 y).1 hy
  have hysz : y.size ≤ 1000000 := by
    rcases (Bool.or_eq_true_iff).1 h1 with h | h
    · obtain ⟨e, he', rfl⟩ := List.mem_map.1 (wh_item h)
      exact (hes e he').2.2.1
    · obtain ⟨r, hr, rfl⟩ := List.mem_map.1 (findR_isSome.1 h)
      have := hl r hr
      unfold RoFew at this
      omega
  have htx : p.2.2.size ≤ 1000000 := by
    unfold tellsOf at hp
    cases hf : findR l y with
    | none =>
      rw [hf] at hp
      simp [tell1] at hp
      subst hp
      show 0 ≤ 1000000
      omega
    | some r =>
      rw [hf] at hp
      have hr := hl r (findR_some hf).1
      unfold RoFew at hr
      unfold tell1 at hp
      dsimp only at hp
      rcases List.mem_append.1 hp with hp | hp
      · split at hp
        · cases hp
        · rw [List.mem_singleton] at hp
          subst hp
          show (r.maker ++ ⟨#[59]⟩ ++ r.tags : ByteArray).size ≤ _
          rw [ByteArray.size_append, ByteArray.size_append]
          show r.maker.size + 1 + r.tags.size ≤ _
          omega
      · split at hp
        · cases hp
        · rw [List.mem_singleton] at hp
          subst hp
          show 0 ≤ 1000000
          omega
  exact ⟨hsrc, by show 0 ≤ 1000000; omega, hysz, htx⟩
end
theorem names_ex2 (es : List Ev) (t : Int) (l : List Ro) : ∃ ns, NamesD es t l ns ∧ ns.length ≤ es.length + l.length := by
  refine ⟨_, compN_is ((es.map (·.item) ++ l.map (·.name)).filter fun y => whB es t (fun _ => true) y || (findR l y).isSome) _ (fun y => ?_), ?_⟩
  · rw [List.mem_filter]
    refine ⟨fun h => h.2, fun h => ⟨?_, h⟩⟩
    rw [List.mem_append]
    rcases (Bool.or_eq_true_iff).1 h with h | h
    · exact Or.inl (wh_item h)
    · exact Or.inr (findR_isSome.1 h)
  · refine Nat.le_trans (compN_len _) ?_
    rw [sortN_len]
    refine Nat.le_trans (List.length_filter_le _ _) ?_
    simp
theorem evs_off {w w' : World} {B : Nat} {A : Option Addr} {l : List Ev} {S : Nat → Prop} (h : EvsAt w B A l) (k : Kept S w w') (hB : B ≤ w.heap.size) (hA : 0 < l.length → ∀ ad, A = some ad → ¬ S ad.block) : EvsAt w' B A l := by
  refine ⟨h.1, ?_⟩
  rcases Nat.eq_zero_or_pos l.length with h0 | h0
  · exact Or.inl h0
  refine h.2.elim Or.inl fun hx => Or.inr ?_
  obtain ⟨b, off, e, hb, hc⟩ := hx
  exact ⟨b, off, e, hb, fun j u hu => (k.cell (p := ⟨b, off + j, none⟩) (by show b < _; omega) (hA h0 ⟨b, off, none⟩ e)).trans (hc j u hu)⟩
def feedN : ByteArray := ⟨#[102, 101, 101, 100]⟩
theorem feed_name : nameB feedN = true := by kernel_rfl


end

end Go.Proofs.YtdcinodbgbkobaaGreatDoor

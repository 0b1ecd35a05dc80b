/- FeedLeads: the walk. -/
import Derived.Test.YtikbckpphkpaiaaDoorFdRef
import Derived.Test.YtikbckpphkpaiaaDoorFdOrders
namespace Go.Proofs.YtikbckpphkpaiaaDoor
open Go.Shelf Go.RowKit Go.Maps
set_option linter.unusedVariables false

/-! ### the text of a listing -/
theorem name_chars {s : ByteArray} (h : nameB s = true) : ∀ (j : Nat) b, s.data.toList[j]? = some b → b ≠ 59 := by
  intro j b hj e
  subst e
  unfold nameB at h
  rw [Bool.and_eq_true, List.all_eq_true] at h
  have := h.2 59 (List.mem_of_getElem? hj)
  simp [okN] at this
theorem list_semi {m t : ByteArray} (h : nameB m = true) : semiAt (m ++ ⟨#[59]⟩ ++ t) m.size := by
  have hd : (m ++ ⟨#[59]⟩ ++ t : ByteArray).data.toList = m.data.toList ++ (59 :: t.data.toList) := by simp
  unfold semiAt
  rw [hd]
  refine ⟨by rw [List.getElem?_append_right (by simp)]; simp, fun j b hj hb => ?_⟩
  rw [List.getElem?_append_left (by simpa using hj)] at hb
  exact name_chars h j b hb
theorem list_cut {m t : ByteArray} (h : nameB m = true) : headP (m ++ ⟨#[59]⟩ ++ t) = m ∧ restP (m ++ ⟨#[59]⟩ ++ t) = t ∧ cutsP (m ++ ⟨#[59]⟩ ++ t) = true := by
  obtain ⟨h1, h2, h3⟩ := cut_hit (list_semi (t := t) h)
  have hsz : (m ++ ⟨#[59]⟩ ++ t : ByteArray).size = m.size + 1 + t.size := by rw [ByteArray.size_append, ByteArray.size_append]; rfl
  refine ⟨?_, ?_, h3⟩
  · rw [h1]
    apply ba_eq
    simp
  · rw [h2, hsz]
    apply ba_eq
    have e1 : m.data.toList.length = m.size := by simp
    have e2 : t.data.toList.length = t.size := by simp
    simp
    rw [← e1, List.drop_of_length_le (by simp), List.take_nil, List.nil_append, ← e2, List.take_length]

/-! ### states -/
def lastS (r : List St) (n : ByteArray) : St := r.getLast?.getD (st0 n)
theorem lastS_fold (n : ByteArray) : ∀ (L : List Ev) (r : List St), (∀ e ∈ L, e.item = n) → lastS (L.foldl rowStep r) n = L.foldl stepSt (lastS r n)
  | [], r, _ => rfl
  | e :: L, r, h => by
    rw [List.foldl_cons, List.foldl_cons, lastS_fold n L _ (fun x hx => h x (List.mem_cons_of_mem _ hx))]
    congr 1
    unfold rowStep lastS
    rw [List.getLast?_append]
    simp [h e (by simp)]
theorem stepSt_num (s : St) (e : Ev) (k : Int) : stepSt s (setNum e k) = stepSt s e := rfl
theorem fold_num (P : Ev → Bool) (hP : ∀ e k, P (setNum e k) = P e) : ∀ (L : List Ev) (g : Nat → Int) (s : St), ((L.mapIdx fun i e => setNum e (g i)).filter P).foldl stepSt s = (L.filter P).foldl stepSt s
  | [], g, s => rfl
  | e :: L, g, s => by
    rw [List.mapIdx_cons, List.filter_cons, List.filter_cons, hP]
    by_cases h : P e = true
    · rw [if_pos h, if_pos h, List.foldl_cons, List.foldl_cons, stepSt_num]
      exact fold_num P hP L (fun i => g (i + 1)) _
    · rw [if_neg h, if_neg h]
      exact fold_num P hP L (fun i => g (i + 1)) _
open Classical in
theorem raw_of (es : List Ev) (t : Int) (src : ByteArray) (l : List Ro) (y : ByteArray) : ∀ (ns : List ByteArray), ns.Nodup → (rawD es t src l ns).filter (fun e => decide (e.item = y)) = if y ∈ ns then (tellsOf es t l y).map (mkE src 0 t y) else []
  | [], _ => by rw [if_neg (by simp)]; rfl
  | n :: ns, hd => by
    rw [List.nodup_cons] at hd
    have ih := raw_of es t src l y ns hd.2
    show (List.flatMap _ (n :: ns)).filter _ = _
    rw [List.flatMap_cons, List.filter_append]
    have ih' : (List.flatMap (fun n => (tellsOf es t l n).map (mkE src 0 t n)) ns).filter (fun e => decide (e.item = y)) = if y ∈ ns then (tellsOf es t l y).map (mkE src 0 t y) else [] := ih
    rw [ih']
    by_cases h : n = y
    · subst h
      rw [if_neg hd.1, List.append_nil, if_pos (by simp), List.filter_eq_self.2]
      intro e he
      obtain ⟨p, _, rfl⟩ := List.mem_map.1 he
      simp [mkE]
    · have h0 : ((tellsOf es t l n).map (mkE src 0 t n)).filter (fun e => decide (e.item = y)) = [] := by
        rw [List.filter_eq_nil_iff]
        intro e he
        obtain ⟨p, _, rfl⟩ := List.mem_map.1 he
        simp [mkE, h]
      rw [h0, List.nil_append]
      have : y ∈ n :: ns ↔ y ∈ ns := by
        rw [List.mem_cons]
        exact ⟨fun h2 => h2.elim (fun h3 => absurd h3.symm h) id, Or.inr⟩
      simp only [this]

theorem at_lastS {es : List Ev} {t : Int} (h : ∀ e ∈ es, e.tick ≤ t) (y : ByteArray) : (atP es y t = none ∧ lastS (rowOf es y) y = st0 y) ∨ atP es y t = some (lastS (rowOf es y) y).item := by
  rw [at_all h]
  unfold lastS
  cases (rowOf es y).getLast? with
  | none => exact Or.inl ⟨rfl, rfl⟩
  | some s => exact Or.inr rfl
open Classical in
/-- The state behind what was told. -/
theorem lead_state {es : List Ev} {t n : Int} {src : ByteArray} {l : List Ro} {ns : List ByteArray} (hns : NamesD es t l ns) (y : ByteArray) : lastS (rowOf (es ++ numD n (rawD es t src l ns)) y) y = if y ∈ ns then ((tellsOf es t l y).map (mkE src 0 t y)).foldl stepSt (lastS (rowOf es y) y) else lastS (rowOf es y) y := by
  have h1 : rowOf (es ++ numD n (rawD es t src l ns)) y = (ofN (numD n (rawD es t src l ns)) y).foldl rowStep (rowOf es y) := by
    unfold rowOf ofN
    rw [List.filter_append, List.foldl_append]
  rw [h1, lastS_fold y (ofN (numD n (rawD es t src l ns)) y) _ (fun e he => of_decide_eq_true (List.mem_filter.1 he).2)]
  unfold ofN numD
  rw [fold_num (fun e => decide (e.item = y)) (fun _ _ => rfl), raw_of es t src l y ns hns.nodup]
  split <;> rfl

/-- As a row says. -/
def AsRow (x : It) (r : Ro) : Prop := x.listed = true ∧ x.maker = r.maker ∧ x.tags = r.tags ∧ x.price = r.price ∧ x.stock = r.stock
theorem tell_state {s : St} {x : It} {r : Ro} {src y : ByteArray} {t : Int} (hm : nameB r.maker = true) (hx : x.listed = s.item.listed ∧ x.maker = s.item.maker ∧ x.tags = s.item.tags ∧ x.price = s.item.price ∧ x.stock = s.item.stock) : AsRow (((tell1 x (some r)).map (mkE src 0 t y)).foldl stepSt s).item r := by
  obtain ⟨h1, h2, h3, h4, h5⟩ := hx
  obtain ⟨c1, c2, _⟩ := list_cut (t := r.tags) hm
  unfold tell1
  dsimp only
  by_cases hc : x.listed = true ∧ x.maker = r.maker ∧ x.tags = r.tags ∧ x.price = r.price
  · rw [if_pos hc, List.nil_append]
    obtain ⟨k1, k2, k3, k4⟩ := hc
    by_cases hs : x.stock = r.stock
    · rw [if_pos hs]
      exact ⟨h1 ▸ k1, h2 ▸ k2, h3 ▸ k3, h4 ▸ k4, h5 ▸ hs⟩
    · rw [if_neg hs]
      exact ⟨h1 ▸ k1, h2 ▸ k2, h3 ▸ k3, h4 ▸ k4, rfl⟩
  · rw [if_neg hc]
    by_cases hs : x.stock = r.stock
    · rw [if_pos hs]
      exact ⟨rfl, c1, c2, rfl, h5 ▸ hs⟩
    · rw [if_neg hs]
      exact ⟨rfl, c1, c2, rfl, rfl⟩

theorem get_same {es : List Ev} {t : Int} (h : ∀ e ∈ es, e.tick ≤ t) (y : ByteArray) : ((atP es y t).getD it0).listed = (lastS (rowOf es y) y).item.listed ∧ ((atP es y t).getD it0).maker = (lastS (rowOf es y) y).item.maker ∧ ((atP es y t).getD it0).tags = (lastS (rowOf es y) y).item.tags ∧ ((atP es y t).getD it0).price = (lastS (rowOf es y) y).item.price ∧ ((atP es y t).getD it0).stock = (lastS (rowOf es y) y).item.stock := by
  rcases at_lastS h y with ⟨h1, h2⟩ | h1
  · rw [h1, h2]; exact ⟨rfl, rfl, rfl, rfl, rfl⟩
  · rw [h1]; exact ⟨rfl, rfl, rfl, rfl, rfl⟩

section
variable {es : List Ev} {t n : Int} {src : ByteArray} {l : List Ro} {ns : List ByteArray}
theorem num_tick (hes : ∀ e ∈ es, e.tick < t) : ∀ e ∈ es ++ numD n (rawD es t src l ns), e.tick ≤ t := by
  intro e he
  rcases List.mem_append.1 he with h | h
  · have := hes e h; omega
  · unfold numD at h
    obtain ⟨i, hi, rfl⟩ := List.mem_mapIdx.1 h
    have h2 := List.getElem_mem hi
    unfold rawD at h2
    obtain ⟨y, _, h3⟩ := List.mem_flatMap.1 h2
    obtain ⟨p, _, h4⟩ := List.mem_map.1 h3
    show ((rawD es t src l ns)[i]).tick ≤ t
    rw [show (rawD es t src l ns)[i] = mkE src 0 t y p from h4.symm]
    exact Int.le_refl _
/-- What was told, applied, makes it as the list says. -/
theorem lead_at (hes : ∀ e ∈ es, e.tick < t) (hok : okL l = true) (hns : NamesD es t l ns) (y : ByteArray) : (findR l y = none ∧ whB (es ++ numD n (rawD es t src l ns)) t (fun _ => true) y = false) ∨ ∃ r x, findR l y = some r ∧ atP (es ++ numD n (rawD es t src l ns)) y t = some x ∧ AsRow x r ∧ x.name = y := by
  have hst := lead_state (n := n) (src := src) hns y
  have hle := num_tick (n := n) (src := src) (l := l) (ns := ns) hes
  have hes' : ∀ e ∈ es, e.tick ≤ t := fun e he => by have := hes e he; omega
  have hat := at_lastS hle y
  cases hf : findR l y with
  | none =>
    refine Or.inl ⟨rfl, ?_⟩
    by_cases hy : y ∈ ns
    · rw [if_pos hy] at hst
      have h2 : (lastS (rowOf (es ++ numD n (rawD es t src l ns)) y) y).item.listed = false := by
        rw [hst]
        unfold tellsOf
        rw [hf]
        rfl
      unfold whB
      rcases hat with ⟨h3, _⟩ | h3
      · rw [h3]
      · rw [h3]; simp [h2]
    · rw [if_neg hy] at hst
      have h0 : whB es t (fun _ => true) y = false := by
        cases hw : whB es t (fun _ => true) y
        · rfl
        · exact absurd ((hns.2 y).2 (by show (whB es t (fun _ => true) y || _) = true; rw [hw]; rfl)) hy
      rw [hst] at hat
      unfold whB at h0 ⊢
      rcases hat with ⟨h3, _⟩ | h3
      · rw [h3]
      · rw [h3]
        rcases at_lastS hes' y with ⟨h4, h5⟩ | h4
        · rw [h5]; rfl
        · rw [h4] at h0; exact h0
  | some r =>
    refine Or.inr ⟨r, ?_⟩
    have hy : y ∈ ns := (hns.2 y).2 (by show (_ || (findR l y).isSome) = true; rw [hf]; simp)
    have hm : nameB r.maker = true := by
      have := ((okL_iff l).1 hok).1 r (findR_some hf).1
      unfold mayR at this
      simp only [Bool.and_eq_true] at this
      exact this.2.1
    rw [if_pos hy] at hst
    have hA : AsRow (lastS (rowOf (es ++ numD n (rawD es t src l ns)) y) y).item r := by
      rw [hst]
      unfold tellsOf
      rw [hf]
      exact tell_state hm (get_same hes' y)
    rcases hat with ⟨_, h4⟩ | h3
    · rw [h4] at hA
      exact absurd hA.1 (by show ¬ (false = true); decide)
    · exact ⟨_, rfl, h3, hA, at_name h3⟩

/-- The names are those of the list. -/
theorem lead_wh (hes : ∀ e ∈ es, e.tick < t) (hok : okL l = true) (hns : NamesD es t l ns) (y : ByteArray) : whB (es ++ numD n (rawD es t src l ns)) t (fun _ => true) y = (findR l y).isSome := by
  rcases lead_at (n := n) (src := src) hes hok hns y with ⟨h1, h2⟩ | ⟨r, x, h1, h2, h3, _⟩
  · rw [h1, h2]; rfl
  · rw [h1]
    unfold whB
    rw [h2]
    simp [h3.1]
theorem lead_names (hes : ∀ e ∈ es, e.tick < t) (hok : okL l = true) (hns : NamesD es t l ns) {ks : List ByteArray} (hk : IsNames (whB (es ++ numD n (rawD es t src l ns)) t (fun _ => true)) ks) : ks.length = l.length := by
  have hp : ks.Perm (l.map (·.name)) := (List.perm_ext_iff_of_nodup hk.nodup ((okL_iff l).1 hok).2.1).2 (fun y => by rw [hk.2, lead_wh hes hok hns, findR_isSome])
  rw [hp.length_eq, List.length_map]
/-- Then there is nothing more to tell. -/
theorem lead_none (hes : ∀ e ∈ es, e.tick < t) (hok : okL l = true) (hns : NamesD es t l ns) {m : Int} {o : List Ev} (h : IsDiff (es ++ numD n (rawD es t src l ns)) t src m l o) : o = [] := by
  cases hgo : goesD l src t m
  · exact h.1 hgo
  · obtain ⟨ns', hns'⟩ := names_ex (es ++ numD n (rawD es t src l ns)) t l
    have hdef : ∀ es, rawD es t src l ns' = ns'.flatMap fun n => (tellsOf es t l n).map (mkE src 0 t n) := fun _ => rfl
    have hraw : rawD (es ++ numD n (rawD es t src l ns)) t src l ns' = [] := by
      rw [hdef (es ++ _), List.flatMap_eq_nil_iff]
      intro y hy
      have h1 : (whB (es ++ numD n (rawD es t src l ns)) t (fun _ => true) y || (findR l y).isSome) = true := (hns'.2 y).1 hy
      rcases lead_at (n := n) (src := src) hes hok hns y with ⟨h2, h3⟩ | ⟨r, x, h2, h3, ⟨a1, a2, a3, a4, a5⟩, _⟩
      · rw [h2, h3] at h1
        cases h1
      · unfold tellsOf
        rw [h2, h3]
        simp [tell1, a1, a2, a3, a4, a5]
    have := h.2 hgo ns' hns'
    rw [hraw] at this
    simpa [numD] using this
end

/-! ### all of them are taken -/
theorem raw_cat {es : List Ev} {t : Int} {src : ByteArray} {l : List Ro} {ns : List ByteArray} (hc : ∀ e ∈ es, catB e = true) (hsrc : nameB src = true) (ht : 0 ≤ t ∧ t ≤ 1099511627776) (hok : okL l = true) (hns : NamesD es t l ns) (k : Int) (hk : 1 ≤ k ∧ k ≤ 1099511627776) : ∀ e ∈ rawD es t src l ns, catB (setNum e k) = true := by
  intro e he
  unfold rawD at he
  obtain ⟨y, hy, h3⟩ := List.mem_flatMap.1 he
  obtain ⟨p, hp, rfl⟩ := List.mem_map.1 h3
  have h1 : (whB es t (fun _ => true) y || (findR l y).isSome) = true := (hns.2 y).1 hy
  unfold tellsOf at hp
  cases hf : findR l y with
  | none =>
    rw [hf] at hp h1
    have h2 : whB es t (fun _ => true) y = true := by simpa using h1
    obtain ⟨e, he', rfl⟩ := List.mem_map.1 (wh_item h2)
    have hn : nameB e.item = true := by
      have := hc e he'
      have hk := this
      unfold catB mayB kindB at this
      rcases (show e.kind = 11 ∨ e.kind = 12 ∨ e.kind = 13 from by unfold catB at hk; rw [Bool.and_eq_true] at hk; exact of_decide_eq_true hk.2) with h | h | h <;> simp [h] at this
      all_goals simp_all
    simp [tell1] at hp
    subst hp
    simp [catB, mayB, kindB, mkE, setNum, hsrc, hk, ht, hn, empB]
  | some r =>
    rw [hf] at hp
    obtain ⟨hr, hnm⟩ := findR_some hf
    have hmr := ((okL_iff l).1 hok).1 r hr
    unfold mayR at hmr
    simp only [Bool.and_eq_true] at hmr
    obtain ⟨m1, m2, m3, m4, m5⟩ := hmr
    rw [hnm] at m1
    unfold withB at m3 m4
    rw [decide_eq_true_iff] at m3 m4
    unfold tagsOkB at m5
    rw [Bool.and_eq_true, decide_eq_true_iff] at m5
    obtain ⟨c1, c2, c3⟩ := list_cut (t := r.tags) m2
    have hev : evTags (r.maker ++ ⟨#[59]⟩ ++ r.tags) = tagsOf r.tags := by rw [tagsOf_eq]; unfold evTags; rw [c2]
    have hl : listB (r.maker ++ ⟨#[59]⟩ ++ r.tags) = true := by
      unfold listB
      rw [c3, c1, m2, hev, m5.2]
      simp [m5.1]
    unfold tell1 at hp
    dsimp only at hp
    rcases List.mem_append.1 hp with hp | hp
    · split at hp
      · cases hp
      · rw [List.mem_singleton] at hp
        subst hp
        simp [catB, mayB, kindB, mkE, setNum, hsrc, hk, ht, m1, m3, hl, empB]
    · split at hp
      · cases hp
      · rw [List.mem_singleton] at hp
        subst hp
        simp [catB, mayB, kindB, mkE, setNum, hsrc, hk, ht, m1, m4, empB]


theorem num_get {n : Int} {L : List Ev} {i : Nat} {e : Ev} (h : (numD n L)[i]? = some e) : ∃ e0, L[i]? = some e0 ∧ e = setNum e0 (IntKind.i64.wrap (n + i)) := by
  unfold numD at h
  rw [List.getElem?_mapIdx] at h
  obtain ⟨e0, h1, h2⟩ := Option.map_eq_some_iff.1 h
  exact ⟨e0, h1, h2.symm⟩
theorem raw_mem {es : List Ev} {t : Int} {src : ByteArray} {l : List Ro} {ns : List ByteArray} {e : Ev} (h : e ∈ rawD es t src l ns) : e.tick = t ∧ e.src = src := by
  unfold rawD at h
  obtain ⟨y, _, h3⟩ := List.mem_flatMap.1 h
  obtain ⟨p, _, rfl⟩ := List.mem_map.1 h3
  exact ⟨rfl, rfl⟩
section
variable {es : List Ev} {t n : Int} {src : ByteArray} {l : List Ro} {ns : List ByteArray}
theorem lead_takes (hes : ∀ e ∈ es, e.tick < t) (hc : ∀ e ∈ es, catB e = true) (hsrc : nameB src = true) (ht : 0 ≤ t ∧ t ≤ 1099511627776) (hok : okL l = true) (hns : NamesD es t l ns) (hn : 1 ≤ n ∧ n ≤ 1073741824) (hl : (rawD es t src l ns).length ≤ 100000) {i : Nat} {e : Ev} (h : (numD n (rawD es t src l ns))[i]? = some e) :
    takesB (es ++ (numD n (rawD es t src l ns)).take i) e = true ∧ e.num = n + i := by
  obtain ⟨e0, h0, rfl⟩ := num_get h
  have hi := (List.getElem?_eq_some_iff.1 h0).1
  have hw : IntKind.i64.wrap (n + i) = n + i := IntWalk.i64_in _ (by omega)
  rw [hw]
  refine ⟨(takes_iff _ _).2 ⟨raw_cat hc hsrc ht hok hns _ (by omega) e0 (List.mem_of_getElem? h0), fun x hx => ?_⟩, rfl⟩
  obtain ⟨t1, s1⟩ := raw_mem (List.mem_of_getElem? h0)
  rcases List.mem_append.1 (List.mem_of_getLast? hx) with h2 | h2
  · refine Or.inl ?_
    show x.tick < e0.tick
    rw [t1]
    exact hes x h2
  · obtain ⟨j, hj⟩ := List.mem_iff_getElem?.1 h2
    rw [List.getElem?_take] at hj
    split at hj
    · rename_i hji
      obtain ⟨x0, hx0, rfl⟩ := num_get hj
      obtain ⟨t2, s2⟩ := raw_mem (List.mem_of_getElem? hx0)
      have hw2 : IntKind.i64.wrap (n + j) = n + j := IntWalk.i64_in _ (by omega)
      rw [hw2]
      refine Or.inr ⟨?_, Or.inr ⟨?_, ?_⟩⟩
      · show x0.tick = e0.tick
        rw [t1, t2]
      · show x0.src = e0.src
        rw [s1, s2]
      · show n + (j : Int) < n + (i : Int)
        omega
    · cases hj
theorem raw_sh (hes : ∀ e ∈ es, EvSh e) (hsrc : src.size ≤ 1000000) (hl : ∀ r ∈ l, RoFew r) (hns : NamesD es t l ns) : ∀ e ∈ rawD es t src l ns, ∀ k : Int, EvSh (setNum e k) := by
  intro e he k
  unfold rawD at he
  obtain ⟨y, hy, h3⟩ := List.mem_flatMap.1 he
  obtain ⟨p, hp, rfl⟩ := List.mem_map.1 h3
  have h1 : (whB es t (fun _ => true) y || (findR l y).isSome) = true := (hns.2 y).1 hy
  have hysz : y.size ≤ 1000000 := by
    rcases (Bool.or_eq_true_iff).1 h1 with h | h
    · obtain ⟨e, he', rfl⟩ := List.mem_map.1 (wh_item h)
      exact (hes e he').2.2.1
    · obtain ⟨r, hr, rfl⟩ := List.mem_map.1 (findR_isSome.1 h)
      have := hl r hr
      unfold RoFew at this
      omega
  have htx : p.2.2.size ≤ 1000000 := by
    unfold tellsOf at hp
    cases hf : findR l y with
    | none =>
      rw [hf] at hp
      simp [tell1] at hp
      subst hp
      show 0 ≤ 1000000
      omega
    | some r =>
      rw [hf] at hp
      have hr := hl r (findR_some hf).1
      unfold RoFew at hr
      unfold tell1 at hp
      dsimp only at hp
      rcases List.mem_append.1 hp with hp | hp
      · split at hp
        · cases hp
        · rw [List.mem_singleton] at hp
          subst hp
          show (r.maker ++ ⟨#[59]⟩ ++ r.tags : ByteArray).size ≤ _
          rw [ByteArray.size_append, ByteArray.size_append]
          show r.maker.size + 1 + r.tags.size ≤ _
          omega
      · split at hp
        · cases hp
        · rw [List.mem_singleton] at hp
          subst hp
          show 0 ≤ 1000000
          omega
  exact ⟨hsrc, by show 0 ≤ 1000000; omega, hysz, htx⟩
end
theorem names_ex2 (es : List Ev) (t : Int) (l : List Ro) : ∃ ns, NamesD es t l ns ∧ ns.length ≤ es.length + l.length := by
  refine ⟨_, compN_is ((es.map (·.item) ++ l.map (·.name)).filter fun y => whB es t (fun _ => true) y || (findR l y).isSome) _ (fun y => ?_), ?_⟩
  · rw [List.mem_filter]
    refine ⟨fun h => h.2, fun h => ⟨?_, h⟩⟩
    rw [List.mem_append]
    rcases (Bool.or_eq_true_iff).1 h with h | h
    · exact Or.inl (wh_item h)
    · exact Or.inr (findR_isSome.1 h)
  · refine Nat.le_trans (compN_len _) ?_
    rw [sortN_len]
    refine Nat.le_trans (List.length_filter_le _ _) ?_
    simp
theorem evs_off {w w' : World} {B : Nat} {A : Option Addr} {l : List Ev} {S : Nat → Prop} (h : EvsAt w B A l) (k : Kept S w w') (hB : B ≤ w.heap.size) (hA : 0 < l.length → ∀ ad, A = some ad → ¬ S ad.block) : EvsAt w' B A l := by
  refine ⟨h.1, ?_⟩
  rcases Nat.eq_zero_or_pos l.length with h0 | h0
  · exact Or.inl h0
  refine h.2.elim Or.inl fun hx => Or.inr ?_
  obtain ⟨b, off, e, hb, hc⟩ := hx
  exact ⟨b, off, e, hb, fun j u hu => (k.cell (p := ⟨b, off + j, none⟩) (by show b < _; omega) (hA h0 ⟨b, off, none⟩ e)).trans (hc j u hu)⟩
def feedN : ByteArray := ⟨#[102, 101, 101, 100]⟩
theorem feed_name : nameB feedN = true := by kernel_rfl

set_option maxHeartbeats 8000000 in
set_option maxRecDepth 100000 in
theorem feedLeads_walk (A : Option Addr) (n c : Nat) (l : List Ev) (t num : Int) (A2 : Option Addr) (m c2 : Nat) (want : List Ro) (w : World) (ha : EvArg w A n c l) (hwt : (Lit.int .i64 t).wf = true) (hwn : (Lit.int .i64 num).wf = true) (hr : RoArg w A2 m c2 want) (hrw : ∀ y ∈ want, RoWf y) (hlc : m ≤ c2) (hg : GlobAt w) :
    Calls Tryd.prog 4 #[.slice A n c, .int .i64 t, .int .i64 num, .slice A2 m c2] w fun e w' => e = .returned (.bool true) ∧ Below w.heap.size w w' := by
  obtain ⟨hn, hl, hb, hnil, hbd⟩ := ha
  obtain ⟨hm, hr2, hmb, hnil2, hrbd⟩ := hr
  have HN := Lib.hid hn
  have HL := Lib.hid hl
  have HD := Lib.hid hbd
  have HM := Lib.hid hm
  have HR := Lib.hid hr2
  have HRD := Lib.hid hrbd
  have HG := Lib.hid hg
  have hgl := hg.1
  have HLV := Lib.hid (lives_any w hg)
  clear hn hl hnil hbd hm hr2 hnil2 hrbd hg hrw hwt hwn
  go_enter Tryd.func4, Tryd.ntmps4
  go_wp2_with fail
  refine HLV.out.mono ?_
  rintro e w1 ⟨rfl, hb1⟩
  have HB1 := Lib.hid hb1
  clear hb1 HLV
  by_cases h40 : (40 : Int) < (n : Int)
  · go_wp2_with fail
    go_ret
    exact ⟨rfl, HB1.out⟩
  have d40 : decide ((40 : Int) < (n : Int)) = false := decide_eq_false h40
  have HSM := Lib.hid (some_any w1 w.heap.size A l n c HN.out (HL.out.below HB1.out) HB1.out.size hb HD.out)
  go_wp2_with fail
  refine HSM.out.mono ?_
  rintro e w2 ⟨b, rfl, hbs, hb2⟩
  have HB2 : Hid (Below w.heap.size w w2) := Lib.hid (HB1.out.trans (hb2.mono HB1.out.size))
  clear hb2 HSM
  cases b
  rotate_left
  · clear hbs
    go_wp2_with fail
    go_ret
    exact ⟨rfl, HB2.out⟩
  have HES := Lib.hid (hbs rfl)
  clear hbs
  have HFW := Lib.hid (few_any w2 w.heap.size A2 want m c2 HM.out (HR.out.below HB2.out) HB2.out.size hmb HRD.out)
  go_wp2_with fail
  refine HFW.out.mono ?_
  rintro e w3 ⟨b, rfl, hbf, q, rfl⟩
  have HB3 : Hid (Below w.heap.size w (w2.drewN q)) := Lib.hid (below_drewN HB2.out q)
  obtain ⟨w3, hw3⟩ : ∃ w3, w2.drewN q = w3 := ⟨_, rfl⟩
  rw [hw3] at HB3 ⊢
  clear HFW hw3
  cases b
  · clear hbf
    go_wp2_with fail
    go_ret
    exact ⟨rfl, HB3.out⟩
  obtain ⟨hm31, hfew⟩ := hbf rfl
  have HFEW := Lib.hid hfew
  clear hbf hfew
  have HAL := Lib.hid (rall_any w3 w.heap.size A2 want m c2 HM.out (HR.out.below HB3.out) HB3.out.size (by omega) hlc HFEW.out)
  go_wp2_with fail
  refine HAL.out.mono ?_
  rintro e w4 ⟨rfl, hb4⟩
  have HB4 : Hid (Below w.heap.size w w4) := Lib.hid (HB3.out.trans (hb4.mono HB3.out.size))
  clear hb4 HAL
  cases hok : okL want
  · clear hok
    go_wp2_with fail
    go_ret
    exact ⟨rfl, HB4.out⟩
  have HOK := Lib.hid hok
  clear hok
  by_cases ht0 : t < 0
  · go_wp2_with fail
    go_ret
    exact ⟨rfl, HB4.out⟩
  have dt0 : decide (t < 0) = false := decide_eq_false ht0
  by_cases ht1 : 1099511627776 < t
  · go_wp2_with fail
    go_ret
    exact ⟨rfl, HB4.out⟩
  have dt1 : decide (1099511627776 < t) = false := decide_eq_false ht1
  by_cases hn0 : num < 1
  · go_wp2_with fail
    go_ret
    exact ⟨rfl, HB4.out⟩
  have dn0 : decide (num < 1) = false := decide_eq_false hn0
  by_cases hn1 : 1073741824 < num
  · go_wp2_with fail
    go_ret
    exact ⟨rfl, HB4.out⟩
  have dn1 : decide (1073741824 < num) = false := decide_eq_false hn1
  have HRG : Hid (0 ≤ t ∧ t ≤ 1099511627776 ∧ 1 ≤ num ∧ num ≤ 1073741824) := Lib.hid (by omega)
  go_wp2_with fail
  obtain ⟨wo, rfl⟩ : ∃ wo, wo = w4 := ⟨_, rfl⟩
  go_loopw [9] (fun i wr => ∃ k : Nat, k ≤ n ∧ i = .int .i64 k ∧ Hid (∀ j x, j < k → l[j]? = some x → x.tick < t) ∧ wr = wo) (fun i _ => n - (intOf i).toNat)
  case atStart => exact ⟨0, Nat.zero_le _, rfl, Lib.hid (fun j x hj => by omega), rfl⟩
  case round =>
    obtain ⟨k, hk, rfl, htk, hwr⟩ := hrel
    obtain rfl : wo = wr := hwr.symm
    obtain ⟨wr, rfl⟩ : ∃ wr, wr = wo := ⟨_, rfl⟩
    by_cases hlt : k < n
    · obtain ⟨x, hx⟩ : ∃ x, l[k]? = some x := ⟨l[k]'(by rw [HN.out]; exact hlt), List.getElem?_eq_getElem _⟩
      obtain ⟨g, o, rfl, _, hcl⟩ := (HL.out.below HB4.out).at (by rw [HN.out]; omega)
      obtain ⟨e0, e1, e2, e3, e4, e5, e6, e7⟩ := hcl k x hx
      have HX := Lib.hid hx
      have hk8 : (k : Int) < (n : Int) := by omega
      have hk9 : (0 : Int) ≤ (k : Int) := by omega
      clear hx hcl e0 e1 e3 e4 e5 e6 e7
      by_cases htx : t ≤ x.tick
      · go_wp2_with fail
        go_ret
        exact ⟨rfl, HB4.out⟩
      have dtx : decide (t ≤ x.tick) = false := decide_eq_false htx
      go_wp2_with fail
      go_roundw
      case rel =>
        refine ⟨k + 1, by omega, by go_num, Lib.hid (fun j y hj hy => ?_), by first | rfl | trivial⟩
        by_cases e : j = k
        · subst e
          rw [HX.out] at hy
          cases hy
          omega
        · exact htk.out j y (by omega) hy
      case measure => simp [intOf]; omega
    obtain rfl : n = k := by omega
    have HTK : Hid (∀ e ∈ l, e.tick < t) := Lib.hid (fun e he => by
      obtain ⟨j, hj⟩ := List.mem_iff_getElem?.1 he
      exact htk.out j e (by have := (List.getElem?_eq_some_iff.1 hj).1; rw [HN.out] at this; exact this) hj)
    clear htk
    have HMD := Lib.hid (made_any wr w.heap.size A l n c HN.out (HL.out.below HB4.out) HB4.out.size (by omega) (fun e he => (HES.out e he).sh3) (HG.out.keep HB4.out (Nat.le_refl _)))
    go_wp2_with fail
    refine HMD.out.mono ?_
    rintro e w5 ⟨hmd, hb5⟩
    have HB5 : Hid (Below w.heap.size w w5) := Lib.hid (HB4.out.trans (hb5.mono HB4.out.size))
    clear hb5 HMD
    rcases hmd with ⟨_, rfl⟩ | ⟨_, cb, F, rfl, hcat, hF⟩
    · go_wp2_with fail
      go_ret
      exact ⟨rfl, HB5.out⟩
    have HC5 := Lib.hid hcat
    have HF : Hid (∀ q, F q → w.heap.size ≤ q) := Lib.hid (fun q hq => Nat.le_trans HB4.out.size (hF q hq))
    clear hcat hF
    have HI1 := Lib.hid (items_any w5 w.heap.size A2 want m c2 HM.out (HR.out.below HB5.out) HB5.out.size (by omega))
    go_wp2_with fail
    refine HI1.out.mono ?_
    rintro e wa ⟨Aa, ca, rfl, hra, _, hba⟩
    have HBa : Hid (Below w.heap.size w wa) := Lib.hid (HB5.out.trans (hba.mono HB5.out.size))
    have HCa : Hid (CatAt wa cb F l) := Lib.hid (HC5.out.below hba)
    have HD1 := Lib.hid (diff_any wa cb F l t feedN num wa.heap.size Aa (itsOf want) m ca HCa.out (by rw [HN.out]; omega) (by decide) (by rw [its_len]; exact HM.out) hra (Nat.le_refl _) (by omega) (its_sh HFEW.out) (HG.out.keep HBa.out (Nat.le_refl _)))
    clear hra hba HI1 HC5
    unfold feedN at HD1
    go_wp2_with fail
    refine HD1.out.mono ?_
    rintro e wb ⟨Ab, cc, o1, rfl, hd1, ho1, hev1, ⟨_, hlo⟩, hbb⟩
    have hd1 : IsDiff l t feedN num want o1 := by rw [its_rows] at hd1; exact hd1
    have HBb : Hid (Below w.heap.size w wb) := Lib.hid (HBa.out.trans (hbb.mono HBa.out.size))
    have HCb : Hid (CatAt wb cb F l) := Lib.hid (HCa.out.below hbb)
    obtain ⟨ns, hns, hnl⟩ := names_ex2 l t want
    have hrl : (rawD l t feedN want ns).length ≤ 200 := by
      refine Nat.le_trans (len_raw _ _ _ _ _) ?_
      have := HN.out
      have := HM.out
      omega
    have hgo : goesD want feedN t num = true := by
      have := HRG.out
      unfold goesD
      rw [HOK.out, feed_name, decide_eq_true this.1, decide_eq_true this.2.1, decide_eq_true this.2.2.1]
      rfl
    have ho : o1 = numD num (rawD l t feedN want ns) := by
      have := hd1.2 hgo ns hns
      rwa [if_neg (by have := HRG.out; omega)] at this
    have HNS := Lib.hid hns
    have HRL := Lib.hid hrl
    have HO := Lib.hid ho
    have HEV := Lib.hid hev1
    have HLO : Hid (∀ ad, Ab = some ad → ¬ F ad.block) := Lib.hid (fun ad h hq => by have := hlo ad h; have := HCa.out.lt _ hq; omega)
    have HLO2 : Hid (0 < o1.length → ∀ ad, Ab = some ad → ¬ F ad.block ∧ ad.block < wb.heap.size) := Lib.hid (fun h0 ad h => ⟨HLO.out ad h, by
      rcases HEV.out.2 with h1 | ⟨b, off, h1, h2, _⟩
      · omega
      · rw [h1] at h; cases h; exact h2⟩)
    obtain ⟨L, hL⟩ : ∃ L, o1.length = L := ⟨_, rfl⟩
    have hL4 : L ≤ 200 := by rw [← hL, HO.out, numD_len]; exact HRL.out
    have HLN := Lib.hid hL
    rw [hL] at HLO2 ⊢
    have hnm0 : 1 ≤ num := HRG.out.2.2.1
    have hnm1 : num ≤ 1073741824 := HRG.out.2.2.2
    have HT0 : Hid (t ≤ 1099511627776 ∧ 0 ≤ t) := Lib.hid ⟨HRG.out.2.1, HRG.out.1⟩
    clear hd1 hev1 hbb HD1 HCa hns hnl hrl hgo ho hlo ho1 hL HBa HB5 HB4 HLO
    go_wp2_with fail
    obtain ⟨w0, rfl⟩ : ∃ w0, w0 = wr := ⟨_, rfl⟩
    go_loopw [12] (fun i wr => ∃ k : Nat, k ≤ L ∧ i = .int .i64 k ∧ Hid (∃ F' : Nat → Prop, CatAt wr cb F' (l ++ o1.take k) ∧ (∀ q, F' q → w.heap.size ≤ q) ∧ (0 < L → ∀ ad, Ab = some ad → ¬ F' ad.block ∧ ad.block < wr.heap.size)) ∧ Hid (EvsAt wr wr.heap.size Ab o1) ∧ Hid (Below w.heap.size w wr)) (fun i _ => L - (intOf i).toNat)
    case atStart => exact ⟨0, Nat.zero_le _, rfl, Lib.hid ⟨F, by rw [List.take_zero, List.append_nil]; exact HCb.out, HF.out, HLO2.out⟩, HEV, HBb⟩
    case round =>
      clear HEV HLO2 HCb HBb HF
      obtain ⟨k, hk, rfl, hcat, hev, hbw⟩ := hrel
      by_cases hlt : k < L
      · obtain ⟨x, hx⟩ : ∃ x, o1[k]? = some x := ⟨o1[k]'(by rw [HLN.out]; exact hlt), List.getElem?_eq_getElem _⟩
        obtain ⟨g, o, rfl, hgB, hcl⟩ := hev.out.at (by rw [HLN.out]; omega)
        obtain ⟨e0, e1, e2, e3, e4, e5, e6, e7⟩ := hcl k x hx
        obtain ⟨F', hc', hF', hA'⟩ := hcat.out
        have hx2 := hx
        rw [HO.out] at hx2
        obtain ⟨htk, hnum⟩ := lead_takes HTK.out (fun e he => hc'.may e (List.mem_append.2 (Or.inl he))) feed_name ⟨HT0.out.2, HT0.out.1⟩ HOK.out HNS.out ⟨hnm0, hnm1⟩ (by have := HRL.out; omega) hx2
        rw [← HO.out] at htk
        have hxs : EvSh x := by
          obtain ⟨y0, hy0, rfl⟩ := num_get hx2
          exact raw_sh (fun e he => (HES.out e he).sh3) (by decide) HFEW.out HNS.out y0 (List.mem_of_getElem? hy0) _
        have HAF : Hid (aftP (l ++ o1.take k) x = l ++ o1.take (k + 1)) := Lib.hid (by unfold aftP; rw [htk, if_pos rfl, List.append_assoc, ← take_snoc hx])
        have HA := Lib.hid (apply_any cb F' (l ++ o1.take k) x wr hc' hxs (HG.out.keep hbw.out (Nat.le_refl _)) (by rw [List.length_append, List.length_take, HN.out]; omega) (fun i hi hFi => by have := hF' i hFi; omega))
        rw [htk, HAF.out] at HA
        have HFF := Lib.hid hF'
        have HAA := Lib.hid hA'
        have HLT := Lib.hid hc'.lt
        have hk8 : (k : Int) < (L : Int) := by omega
        have hk9 : (0 : Int) ≤ (k : Int) := by omega
        unfold evA at HA
        rw [hnum] at e1 HA
        have HGF : Hid (¬ F' g) := Lib.hid (hA' (by omega) _ rfl).1
        clear hcl hx hx2 htk hnum hxs hc' hF' hA' hcat
        go_wp2_with fail
        refine HA.out.mono ?_
        rintro e w6 ⟨rfl, F2, hc2, hs2, hf2, hk2⟩
        have HB6 : Hid (Below w.heap.size w w6) := Lib.hid (hbw.out.trans (hk2.toBelow HFF.out hbw.out.size))
        have HC6 := Lib.hid hc2
        have HE6 : Hid (EvsAt w6 w6.heap.size (some ⟨g, o, none⟩) o1) := Lib.hid ((evs_off hev.out hk2 (Nat.le_refl _) (fun h0 ad h => by cases h; exact HGF.out)).more hk2.size)
        have HF2 : Hid (∀ q, F2 q → w.heap.size ≤ q) := Lib.hid (fun q hq => (hf2 q hq).elim (HFF.out q) (fun h => Nat.le_trans hbw.out.size h))
        have HA2 : Hid (0 < L → ∀ ad, some (⟨g, o, none⟩ : Addr) = some ad → ¬ F2 ad.block ∧ ad.block < w6.heap.size) := Lib.hid (fun h0 ad h => by
          cases h
          refine ⟨fun hq => ?_, Nat.lt_of_lt_of_le hgB hk2.size⟩
          rcases hf2 _ hq with h | h
          · exact HGF.out h
          · have h : wr.heap.size ≤ g := h
            omega)
        have e1' : w6.cell? ⟨g, o + k * 8 + 1, none⟩ = some (.int .i64 (num + k)) := (hk2.cell (p := ⟨g, o + k * 8 + 1, none⟩) hgB HGF.out).trans e1
        clear HA hc2 hs2 hf2 hk2 e0 e1 e2 e3 e4 e5 e6 e7 hev
        go_wp2_with fail
        go_roundw
        case rel => exact ⟨k + 1, by omega, by go_num, Lib.hid ⟨F2, HC6.out, HF2.out, HA2.out⟩, HE6, HB6⟩
        case measure => simp [intOf]; omega
      obtain rfl : L = k := by omega
      obtain ⟨F', hc', hF', hA'⟩ := hcat.out
      have HCL : Hid (CatAt wr cb F' (l ++ o1)) := Lib.hid (by rwa [← HLN.out, List.take_length] at hc')
      clear hc' hF' hA' hcat hev
      have HNA := Lib.hid (names_any cb F' (l ++ o1) t wr HCL.out (by rw [List.length_append, HN.out, HLN.out]; omega))
      go_wp2_with fail
      refine HNA.out.mono ?_
      rintro e wh ⟨Ah, ch, ks, rfl, hks, hkl, _, hrh, hbh⟩
      have HBh : Hid (Below w.heap.size w wh) := Lib.hid (hbw.out.trans (hbh.mono hbw.out.size))
      have HCh : Hid (CatAt wh cb F' (l ++ o1)) := Lib.hid (HCL.out.below hbh)
      have hkm : ks.length = m := by
        rw [HO.out] at hks
        rw [lead_names HTK.out HOK.out HNS.out hks]
        exact HM.out
      rw [hkm]
      have hmm : ((m : Int) != (m : Int)) = false := by simp
      clear hks hrh hbh HNA HCL hkl hkm
      go_wp2_with fail
      clear hbw hmm
      go_loopw [14] (fun i wr => ∃ k : Nat, k ≤ m ∧ i = .int .i64 k ∧ Hid (Below wh.heap.size wh wr)) (fun i _ => m - (intOf i).toNat)
      case atStart => exact ⟨0, Nat.zero_le _, rfl, Lib.hid (Below.refl _ _)⟩
      case round =>
        obtain ⟨k, hk, rfl, hbw⟩ := hrel
        have HBW : Hid (Below w.heap.size w wr) := Lib.hid (HBh.out.trans (hbw.out.mono HBh.out.size))
        have HCW : Hid (CatAt wr cb F' (l ++ o1)) := Lib.hid (HCh.out.below hbw.out)
        by_cases hlt : k < m
        · obtain ⟨r, hr⟩ : ∃ r, want[k]? = some r := ⟨want[k]'(by rw [HM.out]; exact hlt), List.getElem?_eq_getElem _⟩
          obtain ⟨g, o, rfl, hgB, hcl⟩ := ro_at HR.out (by omega)
          have hrm := List.mem_of_getElem? hr
          obtain ⟨x, hx, hxA, hxn⟩ : ∃ x, atP (l ++ o1) r.name t = some x ∧ AsRow x r ∧ x.name = r.name := by
            have hfr := findR_mem ((okL_iff want).1 HOK.out).2.1 hrm
            rcases lead_at (n := num) (src := feedN) HTK.out HOK.out HNS.out r.name with ⟨h1, _⟩ | ⟨r', x, h1, h2, h3, h4⟩
            · rw [hfr] at h1; cases h1
            · rw [hfr] at h1
              cases h1
              rw [← HO.out] at h2
              exact ⟨x, h2, h3, h4⟩
          have HSC : Hid (∀ W, Below w.heap.size w W → W.cell? ⟨g, o + k * 5, none⟩ = some (.string r.name) ∧ W.cell? ⟨g, o + k * 5 + 1, none⟩ = some (.string r.maker) ∧ W.cell? ⟨g, o + k * 5 + 2, none⟩ = some (.string r.tags) ∧ W.cell? ⟨g, o + k * 5 + 3, none⟩ = some (.int .i64 r.price) ∧ W.cell? ⟨g, o + k * 5 + 4, none⟩ = some (.int .i64 r.stock)) := Lib.hid (fun W hW => by
            obtain ⟨f0, f1, f2, f3, f4⟩ := hcl k r hr
            exact ⟨(hW.cell (p := ⟨g, _, none⟩) hgB).trans f0, (hW.cell (p := ⟨g, _, none⟩) hgB).trans f1, (hW.cell (p := ⟨g, _, none⟩) hgB).trans f2, (hW.cell (p := ⟨g, _, none⟩) hgB).trans f3, (hW.cell (p := ⟨g, _, none⟩) hgB).trans f4⟩)
          have hns : r.name.size ≤ 1000000 := by have := HFEW.out r hrm; unfold RoFew at this; omega
          have HAT : Hid (Calls Tryd.prog 18 #[.pointer (some ⟨cb, 0, none⟩), .string r.name, .int .i64 t] wr fun e w' => e = .returned (.tuple #[.agg #[.string r.name, .string r.maker, .string r.tags, .int .i64 r.stock, .int .i64 r.price, .int .i64 x.born, .bool true], .bool true]) ∧ Below wr.heap.size wr w') := Lib.hid (by
            have h := at_any cb F' (l ++ o1) r.name t wr HCW.out hns (by rw [List.length_append, HN.out, HLN.out]; omega)
            unfold toldP itA at h
            obtain ⟨a1, a2, a3, a4, a5⟩ := hxA
            rw [hx, Option.getD_some, hxn, a1, a2, a3, a4, a5] at h
            exact h)
          obtain ⟨xb, hxb⟩ : ∃ xb, x.born = xb := ⟨_, rfl⟩
          rw [hxb] at HAT
          have hk8 : (k : Int) < (m : Int) := by omega
          have hk9 : (0 : Int) ≤ (k : Int) := by omega
          obtain ⟨e0, e1, e2, e3, e4⟩ := HSC.out wr HBW.out
          clear hcl hr hrm hx hxA hxn hxb
          go_wp2_with fail
          refine HAT.out.mono ?_
          rintro e w6 ⟨rfl, hb6⟩
          have HB6 : Hid (Below wh.heap.size wh w6) := Lib.hid (hbw.out.trans (hb6.mono hbw.out.size))
          obtain ⟨w7, hw7⟩ : ∃ w7, w6.alloc (.cells #[.string r.name, .string r.maker, .string r.tags, .int .i64 r.stock, .int .i64 r.price, .int .i64 xb, .bool true] 42) = w7 := ⟨_, rfl⟩
          have HX7 : Hid (Blk w7 w6.heap.size 42 #[.string r.name, .string r.maker, .string r.tags, .int .i64 r.stock, .int .i64 r.price, .int .i64 xb, .bool true]) := Lib.hid (by rw [← hw7]; exact Blk.new _ _ _)
          have HB7 : Hid (Below wh.heap.size wh w7) := Lib.hid (by rw [← hw7]; exact HB6.out.alloc HB6.out.size _)
          have HW7 := Lib.hid hw7
          clear hb6 HAT e0 e1 e2 e3 e4 hw7
          go_wp2_with fail
          try rw [HW7.out]
          obtain ⟨e0, e1, e2, e3, e4⟩ := HSC.out w7 (HBh.out.trans (HB7.out.mono HBh.out.size))
          have x1 : w7.cell? ⟨w6.heap.size, 1, none⟩ = some (.string r.maker) := HX7.out.cell 1
          have x2 : w7.cell? ⟨w6.heap.size, 2, none⟩ = some (.string r.tags) := HX7.out.cell 2
          have x3 : w7.cell? ⟨w6.heap.size, 3, none⟩ = some (.int .i64 r.stock) := HX7.out.cell 3
          have x4 : w7.cell? ⟨w6.heap.size, 4, none⟩ = some (.int .i64 r.price) := HX7.out.cell 4
          have x6 : w7.cell? ⟨w6.heap.size, 6, none⟩ = some (.bool true) := HX7.out.cell 6
          go_quiet (fail)
          go_wp2_with fail
          go_roundw
          case rel => exact ⟨k + 1, by omega, by go_num, Lib.hid (below_drewN HB7.out _)⟩
          case measure => simp [intOf]; omega
        · obtain rfl : m = k := by omega
          have HI2 := Lib.hid (items_any wr w.heap.size A2 want m c2 HM.out (HR.out.below HBW.out) HBW.out.size (by omega))
          go_wp2_with fail
          refine HI2.out.mono ?_
          rintro e wx ⟨Ax, cx, rfl, hrx, _, hbx⟩
          have HBx : Hid (Below w.heap.size w wx) := Lib.hid (HBW.out.trans (hbx.mono HBW.out.size))
          have HCx : Hid (CatAt wx cb F' (l ++ o1)) := Lib.hid (HCW.out.below hbx)
          have HD2 := Lib.hid (diff_any wx cb F' (l ++ o1) t feedN (num + L) wx.heap.size Ax (itsOf want) m cx HCx.out (by rw [List.length_append, HN.out, HLN.out]; omega) (by decide) (by rw [its_len]; exact HM.out) hrx (Nat.le_refl _) (by omega) (its_sh HFEW.out) (HG.out.keep HBx.out (Nat.le_refl _)))
          clear hrx hbx HI2
          unfold feedN at HD2
          go_wp2_with fail
          refine HD2.out.mono ?_
          rintro e wy ⟨Ay, cy, o2, rfl, hd2, _, _, _, hby⟩
          have hd2 : IsDiff (l ++ o1) t feedN (num + L) want o2 := by rw [its_rows] at hd2; exact hd2
          rw [HO.out] at hd2
          obtain rfl := lead_none HTK.out HOK.out HNS.out hd2
          have HBy : Hid (Below w.heap.size w wy) := Lib.hid (HBx.out.trans (hby.mono HBx.out.size))
          clear hd2 hby HD2
          go_wp2_with fail
          go_ret
          exact ⟨rfl, HBy.out⟩

end Go.Proofs.YtikbckpphkpaiaaDoor

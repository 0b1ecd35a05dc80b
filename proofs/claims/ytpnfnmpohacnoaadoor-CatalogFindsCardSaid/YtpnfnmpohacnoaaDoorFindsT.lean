/- CatalogFinds: three rows that grow. -/
import Derived.Test.YtpnfnmpohacnoaaDoorFindsP
namespace Go.Proofs.YtpnfnmpohacnoaaDoor
open Go.Shelf Go.RowKit Go.Maps
set_option linter.unusedVariables false

def okBool : Value → Bool
  | .bool _ => true
  | _ => false
theorem zeroBool (w : World) : (zeroValue 4).run Tryd.prog w = .ok (.bool false) w := Tryd.zeroValue4 w
theorem setG_get (ns : List ByteArray) (n : ByteArray) : (setG ns n).getD (.bool false) = .bool (memB n ns) := by
  unfold setG
  cases memB n ns <;> rfl
theorem kind_of {e : Ev} (h : catB e = true) : e.kind = 11 ∨ e.kind = 12 ∨ e.kind = 13 := by
  unfold catB at h
  rw [Bool.and_eq_true] at h
  exact of_decide_eq_true h.2

/-- Three rows of one's own, apart; a map of names ahead of them. -/
structure Tri (w7 w : World) (mb : Nat) (S : List ByteArray) (a b c : Value) (na nb nc : Nat) (xa xb xc : List ByteArray) : Prop where
  ra : w.ownsRow w7.heap.size 9 1 a na (xa.map .string)
  rb : w.ownsRow w7.heap.size 9 1 b nb (xb.map .string)
  rc : w.ownsRow w7.heap.size 9 1 c nc (xc.map .string)
  ab : Apart a b
  ac : Apart a c
  bc : Apart b c
  map : MapIs Tryd.prog 9 okBool w mb S.length (mapG (setG S))
  keep : Kept (fun q => q = mb) w7 w
  lt : mb < w7.heap.size
section
variable {w7 w w' : World} {mb : Nat} {S : List ByteArray} {a b c : Value} {na nb nc : Nat} {xa xb xc : List ByteArray}
theorem Tri.rot (h : Tri w7 w mb S a b c na nb nc xa xb xc) : Tri w7 w mb S b c a nb nc na xb xc xa := ⟨h.rb, h.rc, h.ra, h.bc, h.ab.symm, h.ac.symm, h.map, h.keep, h.lt⟩
theorem Tri.kept (h : Tri w7 w mb S a b c na nb nc xa xb xc) (k : Kept (fun _ => False) w w') : Tri w7 w' mb S a b c na nb nc xa xb xc :=
  ⟨owns_kept h.ra k (fun _ _ h => h), owns_kept h.rb k (fun _ _ h => h), owns_kept h.rc k (fun _ _ h => h), h.ab, h.ac, h.bc, h.map.kept k (fun h => h), h.keep.trans' k (fun _ _ h => h.elim), h.lt⟩
theorem Tri.below (h : Tri w7 w mb S a b c na nb nc xa xb xc) (k : Below w.heap.size w w') : Tri w7 w' mb S a b c na nb nc xa xb xc := h.kept (below_kept k (Nat.le_refl _))
theorem Tri.set (h : Tri w7 w mb S a b c na nb nc xa xb xc) {n : ByteArray} (hm : MapIs Tryd.prog 9 okBool w' mb (S.length + 1) (upd (mapG (setG S)) (.string n.data.toList) (.bool true))) (hg : w.grownBy w' (some mb)) : Tri w7 w' mb (S ++ [n]) a b c na nb nc xa xb xc := by
  have hk : Kept (fun q => q = mb) w w' := (Kept.refl _ _).grown hg (fun j hj => Or.inl (Option.some.inj hj).symm)
  have hlt := h.lt
  refine ⟨owns_kept h.ra hk (fun g hg e => by have := (h.ra.lt _ hg).1; omega), owns_kept h.rb hk (fun g hg e => by have := (h.rb.lt _ hg).1; omega), owns_kept h.rc hk (fun g hg e => by have := (h.rc.lt _ hg).1; omega), h.ab, h.ac, h.bc, ?_, h.keep.trans hk, h.lt⟩
  rw [List.length_append]
  refine hm.congr (fun kl => ?_)
  rw [mapG_upd]
  cases kl <;> first | rfl | exact setG_upd _ _ _
theorem Tri.step (h : Tri w7 w mb S a b c na nb nc xa xb xc) {o : Obj} {a' : Value} {x : ByteArray} (ho : w'.ownsRow w7.heap.size 9 1 a' (na + 1) (xa.map .string ++ [.string x])) (hg : (w.alloc o).grownBy w' a.ownBlock) (hv : a'.ownBlock = a.ownBlock ∨ a'.ownBlock = some (w.alloc o).heap.size) :
    Tri w7 w' mb S a' b c (na + 1) nb nc (xa ++ [x]) xb xc := by
  refine ⟨by rw [List.map_append]; exact ho, owns_step h.ab h.rb hg, owns_step h.ac h.rc hg, apart_step h.ab h.rb hv, apart_step h.ac h.rc hv, h.bc, (h.map.alloc o).grown hg (fun e => ?_), (h.keep.alloc o).grown hg (fun j hj => Or.inr (h.ra.lt _ hj).1), h.lt⟩
  have := (h.ra.lt _ e.symm).1
  have := h.lt
  omega
/-- A block that no row is. -/
structure Off (w : World) (g : Nat) (cs : Array Value) (t : TypeId) (a b c : Value) : Prop where
  blk : Blk w g t cs
  na : a.ownBlock ≠ some g
  nb : b.ownBlock ≠ some g
  nc : c.ownBlock ≠ some g
theorem Off.rot {g : Nat} {cs : Array Value} {t : TypeId} (h : Off w g cs t a b c) : Off w g cs t b c a := ⟨h.blk, h.nb, h.nc, h.na⟩
theorem Off.step {g : Nat} {cs : Array Value} {t : TypeId} (h : Off w g cs t a b c) {o : Obj} {a' : Value} (hg : (w.alloc o).grownBy w' a.ownBlock) (hv : a'.ownBlock = a.ownBlock ∨ a'.ownBlock = some (w.alloc o).heap.size) : Off w' g cs t a' b c := by
  refine ⟨(h.blk.alloc o).grown hg (fun e => h.na e.symm), fun e => ?_, h.nb, h.nc⟩
  rcases hv with hv | hv
  · exact h.na (hv.symm.trans e)
  · have h1 := Option.some.inj (hv.symm.trans e)
    have h2 := h.blk.lt
    rw [World.size_alloc] at h1
    omega
theorem Off.new (h : Tri w7 w mb S a b c na nb nc xa xb xc) {w8 : World} (hb : Below w.heap.size w w8) (cs : Array Value) (t : TypeId) : Off (w8.alloc (.cells cs t)) w8.heap.size cs t a b c := by
  have hs := hb.size
  exact ⟨Blk.new _ _ _, fun e => by have := (h.ra.lt _ e).2; omega, fun e => by have := (h.rb.lt _ e).2; omega, fun e => by have := (h.rc.lt _ e).2; omega⟩
theorem Off.kept {g : Nat} {cs : Array Value} {t : TypeId} {Q : Nat → Prop} (h : Off w g cs t a b c) (k : Kept Q w w') (hn : ¬ Q g) : Off w' g cs t a b c := ⟨h.blk.kept k hn, h.na, h.nb, h.nc⟩
end

def mkF (l : List Ev) (t : Int) (wd : ByteArray) (ns : List ByteArray) : List ByteArray := ns.filter fun n => decide (((atP l n t).getD it0).maker = wd)
def tgF (l : List Ev) (t : Int) (wd : ByteArray) (ns : List ByteArray) : List ByteArray := ns.filter fun n => memB wd (tagsOf ((atP l n t).getD it0).tags)
theorem mkF_yes {l : List Ev} {t : Int} {wd n : ByteArray} {x : It} (ns : List ByteArray) (h : (atP l n t).getD it0 = x) (hm : x.maker = wd) : mkF l t wd (ns ++ [n]) = mkF l t wd ns ++ [n] := by
  unfold mkF; rw [List.filter_append]; simp [h, hm]
theorem mkF_no {l : List Ev} {t : Int} {wd n : ByteArray} {x : It} (ns : List ByteArray) (h : (atP l n t).getD it0 = x) (hm : ¬ x.maker = wd) : mkF l t wd (ns ++ [n]) = mkF l t wd ns := by
  unfold mkF; rw [List.filter_append]; simp [h, hm]
def more (b : Bool) (n : ByteArray) : List ByteArray := if b then [n] else []
theorem tgF_snoc {l : List Ev} {t : Int} {wd n : ByteArray} {x : It} (ns : List ByteArray) (h : (atP l n t).getD it0 = x) : tgF l t wd (ns ++ [n]) = tgF l t wd ns ++ more (memB wd (tagsOf x.tags)) n := by
  unfold tgF more; rw [List.filter_append]
  cases hb : memB wd (tagsOf x.tags) <;> simp [h, hb]
theorem tgF_len (l : List Ev) (t : Int) (wd : ByteArray) (ns : List ByteArray) (k : Nat) : (tgF l t wd (ns.take k)).length ≤ k :=
  Nat.le_trans (List.length_filter_le _ _) (by rw [List.length_take]; omega)
theorem mkF_len (l : List Ev) (t : Int) (wd : ByteArray) (ns : List ByteArray) (k : Nat) : (mkF l t wd (ns.take k)).length ≤ k :=
  Nat.le_trans (List.length_filter_le _ _) (by rw [List.length_take]; omega)
theorem memB_snoc (x y : ByteArray) (l : List ByteArray) : memB x (l ++ [y]) = (memB x l || decide (y = x)) := by
  unfold memB; rw [List.any_append]; simp
theorem once_tag {tg : List ByteArray} (h : tg.Pairwise ltN) {j : Nat} {wd : ByteArray} (hj : tg[j]? = some wd) : memB wd (tg.take j) = false := by
  rw [Bool.eq_false_iff]
  intro hm
  obtain ⟨i, hi⟩ := List.mem_iff_getElem?.1 ((memB_iff _ _).1 hm)
  rw [List.getElem?_take] at hi
  split at hi
  · rename_i hij
    have h2 := List.getElem?_eq_some_iff.1 hi
    have h3 := List.getElem?_eq_some_iff.1 hj
    have := List.pairwise_iff_getElem.1 h i j h2.1 h3.1 hij
    rw [h2.2, h3.2] at this
    exact ltN_irr _ this
  · cases hi
theorem listed_is {l : List Ev} {t : Int} {ns : List ByteArray} (h : IsNames (whB l t (fun _ => true)) ns) (y : ByteArray) : ((atP l y t).getD it0).listed = memB y ns := by
  have h1 := h.2 y
  rw [← memB_iff] at h1
  unfold whB at h1
  cases ha : atP l y t with
  | none =>
    rw [ha] at h1
    cases hm : memB y ns with
    | false => rfl
    | true => have := h1.1 hm; cases this
  | some x =>
    rw [ha] at h1
    show x.listed = _
    cases hm : memB y ns with
    | true => have := h1.1 hm; simpa using this
    | false =>
      cases hx : x.listed with
      | false => rfl
      | true => have := h1.2 (by simp [hx]); rw [hm] at this; cases this

/-- The tags' row is new. -/
def NewRow (w : World) (A : Option Addr) (w' : World) (l : List ByteArray) : Prop := (A = none ∧ l = []) ∨ (A = some ⟨w.heap.size, 0, none⟩ ∧ Blk w' w.heap.size 9 (l.map Value.string).toArray)
set_option maxHeartbeats 1000000 in
set_option maxRecDepth 100000 in
theorem evtags_new (s : ByteArray) (w : World) (hs : s.size < 4294967281) (hg : GlobAt w) :
    Calls Tryd.prog 19 #[.string s] w fun e w' => ∃ A c, e = .returned (.slice A (evTags s).length c) ∧ NewRow w A w' (evTags s) ∧ Below w.heap.size w w' := by
  have HC := Lib.hid (cut_any s w hs hg)
  go_enter Tryd.func19, Tryd.ntmps19
  go_wp2_with fail
  refine HC.out.mono ?_
  rintro e w1 ⟨rfl, q, rfl⟩
  have hle := cut_le s
  by_cases hr : restP s = ⟨#[]⟩
  · have hb : (restP s).toList.isEmpty = true := by rw [emp_iff]; simp [hr]
    have HE : Hid (evTags s = []) := Lib.hid (by unfold evTags; rw [if_pos hr])
    clear hr HC
    go_wp2_with fail
    go_ret
    rw [HE.out]
    exact ⟨none, 0, rfl, Or.inl ⟨rfl, rfl⟩, ⟨rfl, rfl, rfl, Nat.le_refl _, fun _ _ => rfl⟩⟩
  · have hb : (restP s).toList.isEmpty = false := by rw [emp_iff]; simp [hr]
    have HE : Hid (evTags s = parts (restP s)) := Lib.hid (by unfold evTags; rw [if_neg hr])
    have HS := Lib.hid (split_any (restP s) (w.drewN q) (by omega) (hg.drewN q))
    clear hr HC
    go_wp2_with fail
    refine HS.out.mono ?_
    rintro e w2 ⟨rfl, hw2⟩
    clear HS
    go_wp2_with fail
    go_ret
    rw [HE.out]
    subst hw2
    refine ⟨_, _, rfl, Or.inr ⟨rfl, Blk.new (w.drewN q) _ _⟩, ?_⟩
    have h1 : Below (w.drewN q).heap.size (w.drewN q) ((w.drewN q).alloc (.cells ((parts (restP s)).map Value.string).toArray 9)) := (Below.refl _ _).alloc (Nat.le_refl _) _
    exact ⟨h1.os, h1.tape, h1.output, h1.size, h1.block⟩

end Go.Proofs.YtpnfnmpohacnoaaDoor

/- A crowd in memory. -/
import Derived.Test.YtnkglbiakjnfjaaDoorCrP
import Derived.Test.YtnkglbiakjnfjaaDoorLnk
import Derived.Test.YtnkglbiakjnfjaaDoorGrp
namespace Go.Proofs.YtnkglbiakjnfjaaDoor
open Go.Shelf Go.RowKit Go.Maps
set_option linter.unusedVariables false

/-- A deed as it lies: an event, and the slice of its tags. -/
structure Rd where
  e : Ev
  A : Option Addr
  n : Nat
  c : Nat
def rdC (r : Rd) : List Value := evC r.e ++ [.slice r.A r.n r.c]
theorem rdC_len (r : Rd) : (rdC r).length = 9 := rfl
theorem rdC_one : ∀ (l : List Rd), ∀ u ∈ l.flatMap rdC, u.oneCell' = true := by
  intro l u hu
  obtain ⟨x, _, hx⟩ := List.mem_flatMap.1 hu
  simp [rdC, evC] at hx
  rcases hx with rfl | rfl | rfl | rfl | rfl | rfl | rfl | rfl | rfl <;> rfl
theorem rd_info : (Tryd.prog.info? 82).map (fun i => (i.zero, i.size, i.bytes)) = some (some (.agg #[.string ⟨#[]⟩, .int .i64 0, .int .i64 0, .int .i64 0, .string ⟨#[]⟩, .string ⟨#[]⟩, .int .i64 0, .string ⟨#[]⟩, .slice none 0 0]), 9, 120) := by kernel_rfl
/-- The tags of a deed. -/
def TgAt (w : World) (r : Rd) (ts : List ByteArray) : Prop := r.n = ts.length ∧ w.ownsRow 0 9 1 (.slice r.A r.n r.c) r.n (ts.map .string)
/-- A deed is a row's. -/
def DdIs (w : World) (r : Rd) (x : Rw) : Prop := r.e = x.e ∧ TgAt w r x.ts
def DdsIs (w : World) (l : List Rd) (xs : List Rw) : Prop := l.length = xs.length ∧ ∀ (j : Nat) r x, l[j]? = some r → xs[j]? = some x → DdIs w r x
def Rd.blk (r : Rd) : Option Nat := (Value.slice r.A r.n r.c).ownBlock

structure Bs where
  pb : Nat
  db : Nat
  sb : Nat
  hb : Nat
  fb : Nat
  mb : Nat
  lb : Nat
  nb : Nat
def Bs.l (b : Bs) : List Nat := [b.pb, b.db, b.sb, b.hb, b.fb, b.mb, b.lb, b.nb]
def crCells (half : Int) (n : Nat) (e : Ev) (b : Bs) : Array Value := #[.int .i64 half, .int .i64 n, .string e.src, .int .i64 e.num, .int .i64 e.tick, .int .i64 e.kind, .string e.person, .string e.item, .int .i64 e.value, .string e.text,
  .map (some b.pb), .map (some b.db), .map (some b.sb), .map (some b.hb), .map (some b.fb), .map (some b.mb), .map (some b.lb), .map (some b.nb)]
/-- A crowd's maps but for its people. -/
structure MapsIn (w : World) (b : Bs) (rs : List Rw) : Prop where
  done : Is2 okBool w b.db rs.length (setF (doneB rs))
  shown : Is2 okInt w b.sb rs.length (cntF (shownN rs))
  hid : Is2 okBool w b.hb rs.length (boolF (hidO rs))
  fol : Is2 okBool w b.fb rs.length (boolF (folO rs))
  mtd : Is2 okBool w b.mb rs.length (boolF (mutO rs))
  lik : Is2 okBool w b.lb rs.length (setF (likB rs))
  fans : MapIs Tryd.prog 9 okInt w b.nb rs.length (mapG (cntG (fansN rs)))
/-- A crowd of the rows rs lies in block cb; U: all its blocks. -/
structure CrIn (w : World) (cb : Nat) (b : Bs) (half : Int) (last : Ev) (G : ByteArray → Option Value) (R : ByteArray → List Rd) (U : Nat → Prop) (rs : List Rw) : Prop where
  blk : Blk w cb 80 (crCells half rs.length last b)
  lst : ∀ l, lastE rs = some l → last = l
  ppl : GrpIn rdC 9 82 w b.pb rs.length 0 G R
  rel : ∀ p, DdsIs w (R p) (ownC rs p)
  maps : MapsIn w b rs
  nd : b.l.Nodup
  uc : U cb
  um : ∀ q ∈ b.l, U q
  ur : ∀ p v g, G p = some v → v.ownBlock = some g → U g
  ut : ∀ p r g, r ∈ R p → r.blk = some g → U g
  lt : ∀ q, U q → q < w.heap.size
  may : ∀ r ∈ rs, crB r.e = true
  sh : ∀ r ∈ rs, EvSh r.e
  tg : ∀ r ∈ rs, ∀ t ∈ r.ts, nameB t = true
  tn : ∀ r ∈ rs, r.ts.length ≤ 1000
def CrAt (w : World) (cb : Nat) (half : Int) (U : Nat → Prop) (rs : List Rw) : Prop := ∃ b last G R, CrIn w cb b half last G R U rs

section
variable {w w' : World} {cb : Nat} {b : Bs} {half : Int} {last : Ev} {G : ByteArray → Option Value} {R : ByteArray → List Rd} {U S : Nat → Prop} {rs : List Rw}
theorem MapsIn.kept (h : MapsIn w b rs) (k : Kept S w w') (hS : ∀ q ∈ b.l, ¬ S q) : MapsIn w' b rs := by
  have m : ∀ q, q ∈ b.l → ¬ S q := hS
  unfold Bs.l at m
  exact ⟨h.done.kept k (m _ (by simp)), h.shown.kept k (m _ (by simp)), h.hid.kept k (m _ (by simp)), h.fol.kept k (m _ (by simp)), h.mtd.kept k (m _ (by simp)), h.lik.kept k (m _ (by simp)), h.fans.kept k (m _ (by simp))⟩
theorem TgAt.kept {r : Rd} {ts : List ByteArray} (h : TgAt w r ts) (k : Kept S w w') (hS : ∀ g, r.blk = some g → ¬ S g) : TgAt w' r ts := ⟨h.1, owns_kept h.2 k hS⟩
theorem DdsIs.kept {l : List Rd} {xs : List Rw} (h : DdsIs w l xs) (k : Kept S w w') (hS : ∀ r ∈ l, ∀ g, r.blk = some g → ¬ S g) : DdsIs w' l xs :=
  ⟨h.1, fun j r x hr hx => ⟨(h.2 j r x hr hx).1, (h.2 j r x hr hx).2.kept k (hS r (List.mem_of_getElem? hr))⟩⟩
theorem DdsIs.at {l : List Rd} {xs : List Rw} (h : DdsIs w l xs) {j : Nat} {x : Rw} (hx : xs[j]? = some x) : ∃ r, l[j]? = some r ∧ DdIs w r x := by
  have hj : j < l.length := by rw [h.1]; exact (List.getElem?_eq_some_iff.1 hx).1
  exact ⟨l[j], List.getElem?_eq_getElem hj, h.2 j _ x (List.getElem?_eq_getElem hj) hx⟩
theorem CrIn.kept (h : CrIn w cb b half last G R U rs) (k : Kept S w w') (hS : ∀ q, U q → ¬ S q) : CrIn w' cb b half last G R U rs :=
  ⟨h.blk.kept k (hS _ h.uc), h.lst, h.ppl.kept k (hS _ (h.um _ (by simp [Bs.l]))) (fun p g v hp hg => hS _ (h.ur p v g hp hg)), fun p => (h.rel p).kept k (fun r hr g hg => hS _ (h.ut p r g hr hg)), h.maps.kept k (fun q hq => hS _ (h.um q hq)), h.nd, h.uc, h.um, h.ur, h.ut, fun q hq => Nat.lt_of_lt_of_le (h.lt q hq) k.size, h.may, h.sh, h.tg, h.tn⟩
theorem CrAt.kept (h : CrAt w cb half U rs) (k : Kept S w w') (hS : ∀ q, U q → ¬ S q) : CrAt w' cb half U rs := by
  obtain ⟨b, last, G, R, h⟩ := h
  exact ⟨b, last, G, R, h.kept k hS⟩
theorem CrAt.below (h : CrAt w cb half U rs) (k : Below w.heap.size w w') : CrAt w' cb half U rs := h.kept (below_kept (S := fun _ => False) k (Nat.le_refl _)) (fun _ _ h => h)
theorem CrAt.drewN (h : CrAt w cb half U rs) (n : Nat) : CrAt (w.drewN n) cb half U rs := h.kept ((Kept.refl (fun _ => False) w).drewN n) (fun _ _ h => h)
theorem CrAt.uc (h : CrAt w cb half U rs) : U cb := by obtain ⟨b, last, G, R, h⟩ := h; exact h.uc
theorem CrAt.lt (h : CrAt w cb half U rs) : ∀ q, U q → q < w.heap.size := by obtain ⟨b, last, G, R, h⟩ := h; exact h.lt
theorem CrAt.may (h : CrAt w cb half U rs) : ∀ r ∈ rs, crB r.e = true := by obtain ⟨b, last, G, R, h⟩ := h; exact h.may
theorem CrAt.sh (h : CrAt w cb half U rs) : ∀ r ∈ rs, EvSh r.e := by obtain ⟨b, last, G, R, h⟩ := h; exact h.sh
theorem CrAt.tg (h : CrAt w cb half U rs) : ∀ r ∈ rs, ∀ t ∈ r.ts, nameB t = true := by obtain ⟨b, last, G, R, h⟩ := h; exact h.tg
theorem CrAt.tn (h : CrAt w cb half U rs) : ∀ r ∈ rs, r.ts.length ≤ 1000 := by obtain ⟨b, last, G, R, h⟩ := h; exact h.tn
end
theorem ownC_nil (p : ByteArray) : ownC [] p = [] := rfl

end Go.Proofs.YtnkglbiakjnfjaaDoor

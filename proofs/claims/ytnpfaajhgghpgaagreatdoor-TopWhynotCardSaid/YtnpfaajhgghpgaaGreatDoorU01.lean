/- A part of the joined base. -/
import Derived.WalkKit
import Derived.Maps.OwnSet
import Derived.Maps.RangeWalk
import Derived.Lib.Hide
import Derived.Deep.Draws
import Derived.Laws.Rows
import Derived.StillTailTactics
import Derived.Laws.OwnMore
import Derived.Deep.AppendLies
import Derived.Maps.AppendAt
import Derived.RegionTactic
import Derived.OwnWalk
set_option linter.unusedVariables false
set_option maxHeartbeats 8000000
set_option maxRecDepth 100000
namespace Go.Proofs.YtnpfaajhgghpgaaGreatDoor
theorem _root_.Go.RowKit.Hid.o {p:Prop} (h:Go.RowKit.Hid p):p:=h
theorem zr (n:Nat):n≤n:=Nat.le_refl n
universe u
theorem xq4 {α:Type u} {l:List α} {a:α}:(a::l)[0]? = some a:=rfl
theorem xq5 {α:Type u} {l:List α} {a:α} {i:Nat}:(a::l)[i+1]? = l[i]?:=rfl
theorem xq1 {α:Type u} (l:List α) (i:Nat) (a:α):l.toArray.setIfInBounds i a=(l.set i a).toArray:=by simp
theorem xq2 {α:Type u} (x:α) (l:List α) (a:α):(x::l).set 0 a=a::l:=List.set_cons_zero
theorem xq3 {α:Type u} (x:α) (l:List α) (i:Nat) (a:α):(x::l).set (i+1) a=x::l.set i a:=List.set_cons_succ
theorem zh {p:Prop} (h:p):Go.RowKit.Hid p:=Go.Lib.hid h
end Go.Proofs.YtnpfaajhgghpgaaGreatDoor
namespace Go.Proofs.YtnpfaajhgghpgaaGreatDoor
open Go.RowKit Go.Maps
open Go.WideElems (Fit rd rg rd_val rd_key rg_of)
structure Kept (S:Nat→Prop) (a w:World):Prop where
 os:w.os=a.os
 tape:w.tape=a.tape
 output:w.output=a.output
 size:a.heap.size≤w.heap.size
 block:∀i,i<a.heap.size→¬S i→w.heap[i]? = a.heap[i]?
section
variable {S T : Nat → Prop} {a w w' : World}
theorem Kept.refl (S:Nat→Prop) (w:World):Kept S w w:=⟨rfl,rfl,rfl,zr _,fun _ _ _=>rfl⟩
theorem Kept.trans (h:Kept S a w) (k:Kept S w w'):Kept S a w':=
 ⟨k.os.trans h.os,k.tape.trans h.tape,k.output.trans h.output,Nat.le_trans h.size k.size,fun i hi hn=>(k.block i (Nat.lt_of_lt_of_le hi h.size) hn).trans (h.block i hi hn)⟩
theorem Kept.mono (h:Kept S a w) (hs:∀i,i<a.heap.size→S i→T i):Kept T a w:=
 ⟨h.os,h.tape,h.output,h.size,fun i hi hn=>h.block i hi (fun hS=>hn (hs i hi hS))⟩
theorem Kept.trans' (h:Kept S a w) (k:Kept T w w') (hs:∀i,i<a.heap.size→T i→S i):Kept S a w':=
 ⟨k.os.trans h.os,k.tape.trans h.tape,k.output.trans h.output,Nat.le_trans h.size k.size,fun i hi hn=>(k.block i (Nat.lt_of_lt_of_le hi h.size) (fun ht=>hn (hs i hi ht))).trans (h.block i hi hn)⟩
theorem Kept.drew (h:Kept S a w):Kept S a w.drew:=⟨h.os,h.tape,h.output,h.size,h.block⟩
theorem Kept.drewN (h:Kept S a w) (n:Nat):Kept S a (w.drewN n):=⟨h.os,h.tape,h.output,h.size,h.block⟩
theorem Kept.alloc (h:Kept S a w) (o:Obj):Kept S a (w.alloc o):=
 ⟨h.os,h.tape,h.output,Nat.le_trans h.size (by simp),fun i hi hn=>(Below.heap_alloc w o i (Nat.lt_of_lt_of_le hi h.size)).trans (h.block i hi hn)⟩
theorem Kept.setCell (h:Kept S a w) {p:Addr} (hp:S p.block∨a.heap.size≤p.block) (u:Value):Kept S a (w.setCell p u):=
 ⟨h.os,h.tape,h.output,by simpa [World.setCell] using h.size,fun i hi hn=>(Below.heap_setCell w p u i (by
  rintro rfl;rcases hp with hp|hp
  ·exact hn hp
  ·omega)).trans (h.block i hi hn)⟩
theorem Kept.grown {row:Option Nat} (h:Kept S a w) (hg:w.grownBy w' row) (hr:∀j,row=some j→S j∨a.heap.size≤j):Kept S a w':=
 ⟨hg.os.trans h.os,hg.tape.trans h.tape,hg.output.trans h.output,Nat.le_trans h.size hg.size,fun i hi hn=>(hg.block i (Nat.lt_of_lt_of_le hi h.size) (fun e=>by
  rcases hr i e.symm with h1|h1
  ·exact hn h1
  ·omega)).trans (h.block i hi hn)⟩
theorem Kept.below (h:Kept S a w) {B:Nat} (hb:Below B w w') (hB:a.heap.size≤B):Kept S a w':=
 ⟨hb.os.trans h.os,hb.tape.trans h.tape,hb.output.trans h.output,Nat.le_trans h.size hb.size,fun i hi hn=>(hb.block i (by omega)).trans (h.block i hi hn)⟩
theorem Kept.toBelow (h:Kept S a w) {B:Nat} (hB:∀i,S i→B≤i) (hs:B≤a.heap.size):Below B a w:=
 ⟨h.os,h.tape,h.output,h.size,fun i hi=>h.block i (by omega) (fun hS=>by have:=hB i hS;omega)⟩
theorem Kept.cell (h:Kept S a w) {p:Addr} (hp:p.block<a.heap.size) (hn:¬S p.block):w.cell? p=a.cell? p:=World.cell?_of_block (h.block _ hp hn)
end
def Blk (w:World) (g:Nat) (t:TypeId) (cs:Array Value):Prop:=w.heap[g]? = some (.cells cs t (0,0))
section
variable {w w' a : World} {g : Nat} {t : TypeId} {cs : Array Value} {S : Nat → Prop}
theorem Blk.lt (h:Blk w g t cs):g<w.heap.size:=by
 rcases Nat.lt_or_ge g w.heap.size with hlt|hge
 ·exact hlt
 ·unfold Blk at h;rw[Array.getElem?_eq_none hge]at h;cases h
theorem Blk.cell (h:Blk w g t cs) (i:Nat):w.cell? ⟨g,i,none⟩=cs[i]?:=cell_of_row w g i cs t (0,0) h
theorem Blk.frozen (h:Blk w g t cs) (i:Nat):w.frozen? ⟨g,i,none⟩=false:=by
 unfold Blk at h;simp[World.frozen?,h]
theorem Blk.new (w:World) (t:TypeId) (cs:Array Value):Blk (w.alloc (.cells cs t)) w.heap.size t cs:=heap_alloc_new w _
theorem Blk.drew (h:Blk w g t cs):Blk w.drew g t cs:=h
theorem Blk.drewN (h:Blk w g t cs) (n:Nat):Blk (w.drewN n) g t cs:=h
theorem Blk.alloc (h:Blk w g t cs) (o:Obj):Blk (w.alloc o) g t cs:=(Below.heap_alloc w o g h.lt).trans h
theorem Blk.set_ (h:Blk w g t cs) (i:Nat) (u:Value):Blk (w.setCell ⟨g,i,none⟩ u) g t (cs.setIfInBounds i u):=by
 unfold Blk at h ⊢;simp[World.setCell,Array.getElem?_modify,h]
theorem Blk.far (h:Blk w g t cs) {p:Addr} (hp:g≠p.block) (u:Value):Blk (w.setCell p u) g t cs:=(Below.heap_setCell w p u g hp).trans h
theorem Blk.kept (h:Blk w g t cs) (k:Kept S w w') (hn:¬S g):Blk w' g t cs:=(k.block g h.lt hn).trans h
theorem Blk.grown {row:Option Nat} (h:Blk w g t cs) (hb:w.grownBy w' row) (hg:some g≠row):Blk w' g t cs:=(hb.block g h.lt hg).trans h
end
theorem Zbn {P:Program} {f:FuncId} {args:Array Value} {w:World} {v:Value} (h:Calls P f args w fun e w'=>e = .returned v∧w=w'):Calls P f args w fun e w'=>e = .returned v∧w'=w:=
 h.mono fun _ _ ⟨he,hw⟩=>⟨he,hw.symm⟩
def heldElem (ok:Value→Bool) (v:Value):Option (DataW Value×List MemPlace):=if ok v then some (.held v,[]) else none
theorem Zdc {ok:Value→Bool} {v:Value} (h:ok v=true):heldElem ok v=some (.held v,[]):=by simp[heldElem,h]
theorem Zbv {ok:Value→Bool} {v:Value} {y:DataW Value×List MemPlace} (h:heldElem ok v=some y):ok v=true∧y=(.held v,[]):=by
 unfold heldElem at h;split at h
 ·rename_i hk;cases h;exact⟨hk,rfl⟩
 ·cases h
def unheld:DataW Value→Option Value
 | .held v=>some v
 | _=>none
def view (D:DataW Value) (kl:Lit):Option Value:=unheld (D.atKey kl .nil)
def MapIs (P:Program) (k:TypeId) (ok:Value→Bool) (w:World) (b n:Nat) (M:Lit→Option Value):Prop:=
 ∃D:DataW Value,w.ownsMap P k (heldElem ok) b n D∧∀kl,view D kl=M kl
section
variable {P : Program} {k : TypeId} {ok : Value → Bool} {w w' : World} {b n : Nat} {M : Lit → Option Value}
theorem Zou {D:DataW Value} (h:w.ownsMap P k (heldElem ok) b n D):∃es,D = .map es∧∀p∈es,∃v,ok v=true∧p.2 = .held v:=by
 obtain⟨es,clock,_,F,_,rfl⟩:=h;refine⟨_,rfl,fun p hp=>?_⟩;rw[mem_sorted]at hp;obtain⟨x,hx,rfl⟩:=List.mem_map.1 hp;obtain⟨y,hy⟩:=F.reads x hx;obtain⟨z,hz,hz2⟩:=rd_val hy;obtain⟨h1,rfl⟩:=Zbv hz;exact⟨x.val,h1,by rw[rg_of hy,hz2]⟩
theorem Zc1 {D:DataW Value} (h:w.ownsMap P k (heldElem ok) b n D) (kl:Lit) :
  (Maps.has D kl=false∧view D kl=none∧∀z,D.atKey kl z=z)∨∃v,ok v=true∧Maps.has D kl=true∧view D kl=some v∧∀z,D.atKey kl z = .held v:=by
 obtain⟨es,rfl,hall⟩:=Zou h;cases hf:es.find? (fun p=>p.1.sameKey kl) with
 | none=>
  refine Or.inl ⟨?_,by simp[view,DataW.atKey,hf,unheld],fun z=>by simp[DataW.atKey,hf]⟩;simp only[Maps.has];rw[List.any_eq_false];intro p hp;have:=List.find?_eq_none.1 hf p hp;simpa using this
 | some p=>
  obtain⟨v,hv,hp2⟩:=hall p (List.mem_of_find?_eq_some hf);refine Or.inr ⟨v,hv,?_,by simp[view,DataW.atKey,hf,hp2,unheld],fun z=>by simp[DataW.atKey,hf,hp2]⟩;simp only[Maps.has];rw[List.any_eq_true];exact⟨p,List.mem_of_find?_eq_some hf,by have:=List.find?_some hf;simpa using this⟩
theorem MapIs.ok_of (h:MapIs P k ok w b n M) {kl:Lit} {v:Value} (hv:M kl=some v):ok v=true:=by
 obtain⟨D,hD,hM⟩:=h;rcases Zc1 hD kl with ⟨_,h2,_⟩|⟨v',h1,_,h2,_⟩
 ·rw[hM,hv]at h2;cases h2
 ·rw[hM,hv]at h2;cases h2;exact h1
theorem MapIs.lt (h:MapIs P k ok w b n M):b<w.heap.size:=by obtain⟨D,hD,_⟩:=h;exact hD.lt
theorem MapIs.mono (h:MapIs P k ok w b n M) {n':Nat} (hn:n≤n'):MapIs P k ok w b n' M:=by obtain⟨D,hD,hM⟩:=h;exact⟨D,hD.mono hn,hM⟩
theorem MapIs.grown {row:Option Nat} (h:MapIs P k ok w b n M) (hg:w.grownBy w' row) (hne:some b≠row):MapIs P k ok w' b n M:=by obtain⟨D,hD,hM⟩:=h;exact⟨D,hD.kept hg hne,hM⟩
theorem MapIs.alloc (h:MapIs P k ok w b n M) (o:Obj):MapIs P k ok (w.alloc o) b n M:=by obtain⟨D,hD,hM⟩:=h;exact⟨D,hD.alloc o,hM⟩
theorem MapIs.drew (h:MapIs P k ok w b n M):MapIs P k ok w.drew b n M:=h
theorem MapIs.drewN (h:MapIs P k ok w b n M) (q:Nat):MapIs P k ok (w.drewN q) b n M:=h
theorem MapIs.kept {S:Nat→Prop} (h:MapIs P k ok w b n M) (hk:Kept S w w') (hn:¬S b):MapIs P k ok w' b n M:=by
 obtain⟨D,⟨es,clock,hb,r⟩,hM⟩:=h;exact⟨D,⟨es,clock,(hk.block b (Array.getElem?_eq_some_iff.1 hb).1 hn).trans hb,r⟩,hM⟩
theorem MapIs.congr (h:MapIs P k ok w b n M) {M':Lit→Option Value} (he:∀kl,M kl=M' kl):MapIs P k ok w b n M':=by obtain⟨D,hD,hM⟩:=h;exact⟨D,hD,fun kl=>(hM kl).trans (he kl)⟩
theorem MapIs.ne_blk {g:Nat} {t:TypeId} {cs:Array Value} (h:MapIs P k ok w b n M) (hg:Blk w g t cs):b≠g:=by
 rintro rfl;obtain⟨D,⟨es,clock,hb,_⟩,_⟩:=h;unfold Blk at hg;rw[hb]at hg;cases hg
theorem MapIs.made (w:World) (P:Program) (k:TypeId) (ok:Value→Bool):MapIs P k ok (w.alloc (.map #[] 0)) w.heap.size 0 (fun _=>none):=
 ⟨_,World.ownsMap_made w P k _,fun kl=>by simp[view,DataW.atKey,unheld]⟩
def upd (M:Lit→Option Value) (kl:Lit) (v:Value):Lit→Option Value:=fun x=>if x.sameKey kl then some v else M x
theorem MapIs.look {t e:TypeId} (h:MapIs P k ok w b n M) (K:Keyed P k) (ht:P.underlying t=some (.map k e)) {z:Value} (hz:(zeroValue e).run P w = .ok z w) (hzo:ok z=true) {key:Value} {kl:Lit} (hkey:keyOf P k key=some kl) :
  (Instr.lookup t (.map (some b)) key false).run P w = .ok ((M kl).getD z) w:=by
 obtain⟨D,hD,hM⟩:=h;obtain⟨v,ps,hrun,hv⟩:=hD.lookup K ht hz (Zdc hzo) hkey;obtain⟨_,hv2⟩:=Zbv hv;rw[hrun,←hM];rcases Zc1 hD kl with ⟨_,h2,h3⟩|⟨v',_,_,h2,h3⟩
 ·rw[h3]at hv2;cases hv2;rw[h2];rfl
 ·rw[h3]at hv2;cases hv2;rw[h2];rfl
theorem MapIs.look_ok {t e:TypeId} (h:MapIs P k ok w b n M) (K:Keyed P k) (ht:P.underlying t=some (.map k e)) {z:Value} (hz:(zeroValue e).run P w = .ok z w) (hzo:ok z=true) {key:Value} {kl:Lit} (hkey:keyOf P k key=some kl) :
  (Instr.lookup t (.map (some b)) key true).run P w = .ok (.tuple #[(M kl).getD z,.bool (M kl).isSome]) w:=by
 obtain⟨D,hD,hM⟩:=h;obtain⟨v,ps,hrun,hv⟩:=hD.look_ok K ht hz (Zdc hzo) hkey;obtain⟨_,hv2⟩:=Zbv hv;rw[hrun,←hM];rcases Zc1 hD kl with ⟨h1,h2,h3⟩|⟨v',_,h1,h2,h3⟩
 ·rw[h3]at hv2;cases hv2;rw[h1,h2];rfl
 ·rw[h3]at hv2;cases hv2;rw[h1,h2];rfl
theorem MapIs.store {t e:TypeId} (h:MapIs P k ok w b n M) (K:Keyed P k) (ht:P.underlying t=some (.map k e)) (hn:n<maxLen) {key val:Value} {kl:Lit} (hkey:keyOf P k key=some kl) (hv:ok val=true) :
  ∃w',(Instr.mapUpdate t (.map (some b)) key val).run P w = .ok () w'∧MapIs P k ok w' b (n+1) (upd M kl val)∧w.grownBy w' (some b)∧w'.heap.size=w.heap.size:=by
 obtain⟨D,hD,hM⟩:=h;obtain⟨w',hrun,h1,h2⟩:=hD.store K ht hn hkey (Zdc hv);refine⟨w',hrun,⟨_,h1,fun x=>?_⟩,h2.grown,?_⟩
 ·unfold upd view;by_cases hx:x=kl
  ·subst hx;rw[WideAt.sameKey_self (K.key hkey),if_pos rfl,atKey_put_same hD.isMap (K.key hkey)];rfl
  ·rw[sameKey_ne hx,if_neg (by simp),atKey_put_other hx];exact hM x
 ·obtain⟨es,c,es',c',_,rfl⟩:=h2;simp[Go.ChangeMaps.setBlock]
def MapGoes (P:Program) (k:TypeId) (ok:Value→Bool) (w:World) (b r n:Nat) (M:Lit→Option Value) (left:Lit→Bool) (cnt:Nat):Prop:=
 ∃D:DataW Value,w.ranges P k (heldElem ok) b r n D left cnt∧∀kl,view D kl=M kl
variable {r cnt : Nat} {left : Lit → Bool}
theorem MapGoes.map (h:MapGoes P k ok w b r n M left cnt):MapIs P k ok w b n M:=by obtain⟨D,hD,hM⟩:=h;exact⟨D,hD.owns,hM⟩
theorem MapGoes.left_eq (h:MapGoes P k ok w b r n M left cnt):w.rangeLeft b r=cnt:=by obtain⟨D,hD,hM⟩:=h;exact hD.left_eq
theorem MapGoes.grown {row:Option Nat} (h:MapGoes P k ok w b r n M left cnt) (hg:w.grownBy w' row) (hb:some b≠row) (hr:some r≠row):MapGoes P k ok w' b r n M left cnt:=by obtain⟨D,hD,hM⟩:=h;exact⟨D,hD.kept hg hb hr,hM⟩
theorem MapGoes.alloc (h:MapGoes P k ok w b r n M left cnt) (o:Obj):MapGoes P k ok (w.alloc o) b r n M left cnt:=by obtain⟨D,hD,hM⟩:=h;exact⟨D,hD.alloc o,hM⟩
theorem Zdj {D:DataW Value} (h:w.ownsMap P k (heldElem ok) b n D) (kl:Lit):(view D kl).isSome=Maps.has D kl:=by
 rcases Zc1 h kl with ⟨h1,h2,_⟩|⟨v,_,h1,h2,_⟩ <;> rw[h1,h2] <;> rfl
theorem MapIs.range {t e:TypeId} (h:MapIs P k ok w b n M) (K:Keyed P k) (ht:P.underlying t=some (.map k e)) :
  ∃w' cnt,(Instr.range t (.map (some b))).run P w = .ok (.pointer (some ⟨w.heap.size,0,none⟩)) w'∧MapGoes P k ok w' b w.heap.size n M (fun kl=>(M kl).isSome) cnt∧w.grownBy w' none∧w'.heap.size=w.heap.size+1∧cnt≤n:=by
 obtain⟨D,hD,hM⟩:=h;obtain⟨w',hrun,r1,r2,r3⟩:=hD.range K ht;refine⟨w',_,hrun,⟨D,?_,hM⟩,r2,r3,hD.size_le⟩;have:(fun kl=>(M kl).isSome)=Maps.has D:=by
  funext kl
  rw[←hM,Zdj hD]
 rw[this];exact r1
theorem MapGoes.next (h:MapGoes P k ok w b r n M left cnt) (K:Keyed P k) (ty:TypeId) :
  (cnt=0∧(∀kl,left kl=false)∧(Instr.next (.pointer (some ⟨r,0,none⟩)) false ty).run P w = .ok (.tuple #[.bool false]) w) ∨
  ∃key v kl w' cnt',keyOf P k key=some kl∧left kl=true∧ok v=true∧M kl=some v∧(Instr.next (.pointer (some ⟨r,0,none⟩)) false ty).run P w = .ok (.tuple #[.bool true,key,v]) w' ∧
   MapGoes P k ok w' b r n M (fun x=>left x && !x.sameKey kl) cnt'∧cnt'<cnt∧w.grownBy w' (some r)∧w'.heap.size=w.heap.size∧(Instr.entry (.pointer (some ⟨r,0,none⟩))).run P w' = .ok (.tuple #[key,v]) w':=by
 obtain⟨D,hD,hM⟩:=h;rcases hD.next K ty with ⟨h0,hl,hrun⟩|⟨key,v,kl,y,w',cnt',hkey,hlk,hv,hat,hrun,hrg,hlt,hgr,hsz,hen⟩
 ·exact Or.inl ⟨h0,hl,hrun⟩
 ·obtain⟨h1,rfl⟩:=Zbv hv;refine Or.inr ⟨key,v,kl,w',cnt',hkey,hlk,h1,?_,hrun,⟨D,?_,hM⟩,hlt,hgr,hsz,hen⟩
  ·rw[←hM];unfold view;rw[hat];rfl
  ·exact hrg
end
end Go.Proofs.YtnpfaajhgghpgaaGreatDoor
namespace Go.Proofs.YtnpfaajhgghpgaaGreatDoor
open Go.RowKit
def RowIn (w:World) (B size:Nat) (A:Option Addr) (n:Nat) (xs:List Value):Prop:=
 xs.length=n*size∧(n=0∨∃b off,A=some ⟨b,off,none⟩∧b<B∧∀j u,xs[j]? = some u→w.cell? ⟨b,off+j,none⟩=some u)
theorem at_add (b off k:Nat):(⟨b,off,none⟩:Addr).add k=⟨b,off+k,none⟩:=by
 unfold Addr.add;split
 ·rename_i h;subst h;rfl
 ·rfl
section
variable {w w' a : World} {B B' size n : Nat} {A : Option Addr} {xs : List Value}
theorem RowIn.nil (w:World) (B size:Nat) (A:Option Addr):RowIn w B size A 0 []:=⟨by simp,Or.inl rfl⟩
theorem RowIn.keep (h:RowIn w B size A n xs) (hk:∀p:Addr,p.block<B→w'.cell? p=w.cell? p):RowIn w' B size A n xs:=by
 refine⟨h.1,h.2.elim Or.inl fun hx=>Or.inr ?_⟩;obtain⟨b,off,e,hb,hc⟩:=hx;exact⟨b,off,e,hb,fun j u hu=>(hk ⟨b,off+j,none⟩ hb).trans (hc j u hu)⟩
theorem RowIn.more (h:RowIn w B size A n xs) (hB:B≤B'):RowIn w B' size A n xs:=by
 refine⟨h.1,h.2.elim Or.inl fun hx=>Or.inr ?_⟩;obtain⟨b,off,e,hb,hc⟩:=hx;exact⟨b,off,e,by omega,hc⟩
theorem RowIn.below (h:RowIn w B size A n xs) (hb:Below B w w'):RowIn w' B size A n xs:=h.keep fun _ hp=>hb.cell hp
theorem RowIn.drew (h:RowIn w B size A n xs):RowIn w.drew B size A n xs:=h
theorem RowIn.drewN (h:RowIn w B size A n xs) (q:Nat):RowIn (w.drewN q) B size A n xs:=h
theorem RowIn.alloc (h:RowIn w B size A n xs) (hB:B≤w.heap.size) (o:Obj):RowIn (w.alloc o) B size A n xs:=h.keep fun p hp=>World.cell?_alloc_lt w o p (by omega)
theorem RowIn.at (h:RowIn w B size A n xs) (hn:0<n):∃b off,A=some ⟨b,off,none⟩∧b<B∧∀j u,xs[j]? = some u→w.cell? ⟨b,off+j,none⟩=some u:=by
 rcases h.2 with h0|h1
 ·omega
 ·exact h1
theorem RowIn.of_own {base:Nat} {e:TypeId} {c:Nat} (h:w.ownsRow base e size (.slice A n c) n xs):RowIn w w.heap.size size A n xs:=by
 refine⟨h.1,?_⟩;rcases Nat.eq_zero_or_pos n with h0|h0
 ·exact Or.inl h0
 ·obtain⟨g,cap,hv,_,hlt⟩:=h.form h0;injection hv with hA;subst hA;refine Or.inr ⟨g,0,rfl,hlt,fun j u hu=>?_⟩;have:=h.cells (g:=g) rfl j u hu
  rwa [at_add]at this
theorem RowIn.cut (h:RowIn w B size A n xs) {k cap:Nat} (hk:k≤n) (hc:n≤cap):RowIn w B size (if cap=k then A else A.map (·.add (k*size))) (n - k) (xs.drop (k*size)):=by
 refine⟨by rw[List.length_drop,h.1,Nat.sub_mul],?_⟩;rcases Nat.eq_zero_or_pos (n - k) with h0|h0
 ·exact Or.inl h0
 ·obtain⟨b,off,rfl,hb,hcell⟩:=h.at (by omega);rw[if_neg (by omega)];refine Or.inr ⟨b,off+k*size,by simp[at_add],hb,fun j u hu=>?_⟩;rw[Nat.add_assoc];exact hcell _ u (by rw[←hu,List.getElem?_drop])
end
section
variable {P : Program} (w : World)
theorem Zfm (base:Nat) (t ty e:TypeId) (i:TypeInfo) (z:Value) (size bytes:Nat) (ht:P.underlying t=some (.slice e)) (hi:P.info? e=some i) (hz:i.zero=some z)
  (hsize:i.size=size) (hby:i.bytes=bytes) (hzs:z.cells.size=size) (hsz:0<size) (v:Value) (n:Nat) (xs:List Value) (hown:w.ownsRow base e size v n xs)
  (B:Nat) (A:Option Addr) (m c:Nat) (news:List Value) (hr:RowIn w B size A m news) (hnc:A=none→c=0) (h1:∀u∈news,u.oneCell'=true)
  (h63:n+m≤maxLen) (hbytes:(n+m)*bytes≤140737488355328) (hbase:base≤w.heap.size) :
  ∃v' w',(Builtin.append_ #[t,t] ty #[v,.slice A m c]).run P w = .ok v' w'∧w'.ownsRow base e size v' (n+m) (xs++news)∧w.grownBy w' v.ownBlock∧(v'.ownBlock=v.ownBlock∨v'.ownBlock=some w.heap.size):=by
 cases A with
 | none=>
  have hm:m=0:=by
   rcases hr.2 with h|⟨b,off,h,_⟩
   ·exact h
   ·cases h
  subst hm;obtain rfl:news = []:=List.eq_nil_of_length_eq_zero (by simpa using hr.1);rw[hnc rfl];exact⟨v,w,run_append_owned_none w base t ty e i size ht hi v n xs hown,by simpa using hown,World.grownBy.refl w _,Or.inl rfl⟩
 | some ad=>
  have hcells:∀j u,news[j]? = some u→w.cell? (ad.add j)=some u:=by
   intro j u hu;rcases hr.2 with h0|⟨b,off,h,_,hc⟩
   ·subst h0;obtain rfl:news = []:=List.eq_nil_of_length_eq_zero (by simpa using hr.1);simp at hu
   ·injection h with h;subst h;rw[at_add];exact hc j u hu
  obtain⟨v',w',r1,r2,r3,_,r4⟩:=run_append_own_at (P:=P) w base t ty e i z size bytes ht hi hz hsize hby hzs hsz v n xs hown ad m c news hr.1 hcells h1 h63 hbytes hbase;exact⟨v',w',r1,r2,r3,r4⟩
theorem Zdk {o:Oper} {a:Act} {K:Act→World→Prop} {Q:Exit→Act→World→Prop} (s x:Operand) (t:TypeId) (ho:o.op = .call { callee:=.builtin .append,args:=#[s,x],argTypes:=#[t,t] })
  (base:Nat) (e:TypeId) (i:TypeInfo) (z:Value) (size bytes:Nat) (ht:P.underlying t=some (.slice e)) (hi:P.info? e=some i) (hz:i.zero=some z)
  (hsize:i.size=size) (hby:i.bytes=bytes) (hzs:z.cells.size=size) (hsz:0<size) (v:Value) (n:Nat) (xs:List Value) (hs:a.eval s=v) (hown:w.ownsRow base e size v n xs)
  (B:Nat) (A:Option Addr) (m c:Nat) (news:List Value) (hx:a.eval x = .slice A m c) (hr:RowIn w B size A m news) (hnc:A=none→c=0) (h1:∀u∈news,u.oneCell'=true)
  (h63:n+m≤maxLen) (hbytes:(n+m)*bytes≤140737488355328) (hbase:base≤w.heap.size)
  (h:∀v' w',w'.ownsRow base e size v' (n+m) (xs++news)→w.grownBy w' v.ownBlock→(v'.ownBlock=v.ownBlock∨v'.ownBlock=some w.heap.size)→K (a.put o.dst v') w'):o.wp P a w K Q:=by
 obtain⟨v',w',r1,r2,r3,r4⟩:=Zfm (P:=P) w base t o.type e i z size bytes ht hi hz hsize hby hzs hsz v n xs hown B A m c news hr hnc h1 h63 hbytes hbase;unfold Oper.wp execOp;simp only[ho,resolve,invoke,builtin,Sem.run_bind,Sem.run_pure,Result.andThen_ok,List.map_toArray,List.map_cons,List.map_nil,hs,hx,r1];exact h v' w' r2 r3 r4
theorem Zaa {ops:Array Oper} {rest:List Oper} {o:Oper} {a:Act} {Q:Exit→Act→World→Prop} (hgd:o.guard=none) (s x:Operand) (t:TypeId) (ho:o.op = .call { callee:=.builtin .append,args:=#[s,x],argTypes:=#[t,t] })
  (base:Nat) (e:TypeId) (i:TypeInfo) (z:Value) (size bytes:Nat) (ht:P.underlying t=some (.slice e)) (hi:P.info? e=some i) (hz:i.zero=some z)
  (hsize:i.size=size) (hby:i.bytes=bytes) (hzs:z.cells.size=size) (hsz:0<size) (v:Value) (n:Nat) (xs:List Value) (hs:a.eval s=v) (hown:w.ownsRow base e size v n xs)
  (B:Nat) (A:Option Addr) (m c:Nat) (news:List Value) (hx:a.eval x = .slice A m c) (hr:RowIn w B size A m news) (hnc:A=none→c=0) (h1:∀u∈news,u.oneCell'=true)
  (h63:n+m≤maxLen) (hbytes:(n+m)*bytes≤140737488355328) (hbase:base≤w.heap.size)
  (h:∀v' w',w'.ownsRow base e size v' (n+m) (xs++news)→w.grownBy w' v.ownBlock→(v'.ownBlock=v.ownBlock∨v'.ownBlock=some w.heap.size)→wpList P ops Q rest (a.put o.dst v') w'):wpList P ops Q (o::rest) a w:=
 wpList_plain hgd fun _ hK=>Zdk w s x t ho base e i z size bytes ht hi hz hsize hby hzs hsz v n xs hs hown B A m c news hx hr hnc h1 h63 hbytes hbase fun v' w' h2 h3 h4=>hK _ _ (h v' w' h2 h3 h4)
theorem Ze2 {ops:Array Oper} {o:Oper} {a:Act} {K:Act→World→Prop} {Q:Exit→Act→World→Prop} {E:Prop} (hgd:o.guard=none) (s x:Operand) (t:TypeId) (ho:o.op = .call { callee:=.builtin .append,args:=#[s,x],argTypes:=#[t,t] })
  (base:Nat) (e:TypeId) (i:TypeInfo) (z:Value) (size bytes:Nat) (ht:P.underlying t=some (.slice e)) (hi:P.info? e=some i) (hz:i.zero=some z)
  (hsize:i.size=size) (hby:i.bytes=bytes) (hzs:z.cells.size=size) (hsz:0<size) (v:Value) (n:Nat) (xs:List Value) (hs:a.eval s=v) (hown:w.ownsRow base e size v n xs)
  (B:Nat) (A:Option Addr) (m c:Nat) (news:List Value) (hx:a.eval x = .slice A m c) (hr:RowIn w B size A m news) (hnc:A=none→c=0) (h1:∀u∈news,u.oneCell'=true)
  (h63:n+m≤maxLen) (hbytes:(n+m)*bytes≤140737488355328) (hbase:base≤w.heap.size)
  (h:∀v' w',w'.ownsRow base e size v' (n+m) (xs++news)→w.grownBy w' v.ownBlock→(v'.ownBlock=v.ownBlock∨v'.ownBlock=some w.heap.size)→K (a.put o.dst v') w') :
  if Region.wanted o (yielded ops a.tmps)=true then Oper.wp P o a w K Q else E:=by
 rw[if_pos (by simp[Region.wanted,hgd])];exact Zdk w s x t ho base e i z size bytes ht hi hz hsize hby hzs hsz v n xs hs hown B A m c news hx hr hnc h1 h63 hbytes hbase h
end
theorem Zc2 {α:Type} (f:α→List Value) (k:Nat) (hf:∀x,(f x).length=k):∀l:List α,(l.flatMap f).length=l.length*k
 | []=>by simp
 | x::l=>by simp[List.flatMap_cons,hf,Zc2 f k hf l,Nat.add_mul,Nat.add_comm]
theorem Zbi {α:Type} (f:α→List Value) (k:Nat) (hf:∀x,(f x).length=k):∀(l:List α) (i j:Nat) (x:α),l[i]? = some x→j<k→(l.flatMap f)[i*k+j]? = (f x)[j]?
 | [],i,j,x,h,_=>by simp at h
 | y::l,0,j,x,h,hj=>by
  simp at h;subst h;rw[List.flatMap_cons,Nat.zero_mul,Nat.zero_add,List.getElem?_append_left (by rw[hf];exact hj)]
 | y::l,i+1,j,x,h,hj=>by
  rw[List.flatMap_cons,List.getElem?_append_right (by rw[hf,Nat.add_mul];omega),hf];rw[show (i+1)*k+j - k=i*k+j from by rw[Nat.add_mul];omega];exact Zbi f k hf l i j x (by simpa using h) hj
theorem Zhh {α:Type} (f:α→List Value) (k:Nat) (hf:∀x,(f x).length=k):∀(l:List α) (i:Nat),(l.flatMap f).drop (i*k)=(l.drop i).flatMap f
 | l,0=>by simp
 | [],i+1=>by simp
 | y::l,i+1=>by
  rw[List.flatMap_cons,List.drop_append,List.drop_of_length_le (by rw[hf,Nat.add_mul];omega),List.nil_append,hf,show (i+1)*k - k=i*k from by rw[Nat.add_mul];omega,Zhh f k hf l i];simp
theorem zG {α:Sort _} (a:α):∃x,a=x:=⟨a,rfl⟩
theorem zH {α:Sort _} (a:α):∃x,x=a:=⟨a,rfl⟩
theorem zT {a w w':World} (h:Go.RowKit.Hid (Below a.heap.size a w)) (k:Below w.heap.size w w'):Go.RowKit.Hid (Below a.heap.size a w'):=zh (h.o.trans (k.mono h.o.size))
theorem zA {w w1:World} {o:Obj} (h:w.alloc o=w1):Go.RowKit.Hid (Below w.heap.size w w1):=zh (by rw[←h];exact (Below.refl _ _).alloc (zr _) _)
theorem zB {w w1:World} {t:TypeId} {c:Array Value} (h:w.alloc (.cells c t)=w1):Go.RowKit.Hid (Blk w1 w.heap.size t c):=zh (by rw[←h];exact Blk.new _ _ _)
theorem zD {w w1:World} (h:w.drew=w1):Go.RowKit.Hid (Below w.heap.size w w1):=zh (by rw[←h];exact (Below.refl _ _).trans ⟨rfl,rfl,rfl,zr _,fun _ _=>rfl⟩)
theorem zX {w w':World} {g:Nat} {t:TypeId} {c:Array Value} (h:Go.RowKit.Hid (Blk w g t c)) (k:Below w.heap.size w w'):Go.RowKit.Hid (Blk w' g t c):=zh ((k.block _ h.o.lt).trans h.o)
theorem zC2 {w:World} {g:Nat} {t:TypeId} {a0 a1:Value} (h:Blk w g t #[a0,a1]):w.cell? ⟨g,0,none⟩=some a0∧w.cell? ⟨g,1,none⟩=some a1:=⟨h.cell 0,h.cell 1⟩
theorem zC3 {w:World} {g:Nat} {t:TypeId} {a0 a1 a2:Value} (h:Blk w g t #[a0,a1,a2]):w.cell? ⟨g,0,none⟩=some a0∧w.cell? ⟨g,1,none⟩=some a1∧w.cell? ⟨g,2,none⟩=some a2:=⟨h.cell 0,h.cell 1,h.cell 2⟩
theorem zC4 {w:World} {g:Nat} {t:TypeId} {a0 a1 a2 a3:Value} (h:Blk w g t #[a0,a1,a2,a3]):w.cell? ⟨g,0,none⟩=some a0∧w.cell? ⟨g,1,none⟩=some a1∧w.cell? ⟨g,2,none⟩=some a2∧w.cell? ⟨g,3,none⟩=some a3:=⟨h.cell 0,h.cell 1,h.cell 2,h.cell 3⟩
theorem zC5 {w:World} {g:Nat} {t:TypeId} {a0 a1 a2 a3 a4:Value} (h:Blk w g t #[a0,a1,a2,a3,a4]):w.cell? ⟨g,0,none⟩=some a0∧w.cell? ⟨g,1,none⟩=some a1∧w.cell? ⟨g,2,none⟩=some a2∧w.cell? ⟨g,3,none⟩=some a3∧w.cell? ⟨g,4,none⟩=some a4:=⟨h.cell 0,h.cell 1,h.cell 2,h.cell 3,h.cell 4⟩
theorem zC6 {w:World} {g:Nat} {t:TypeId} {a0 a1 a2 a3 a4 a5:Value} (h:Blk w g t #[a0,a1,a2,a3,a4,a5]):w.cell? ⟨g,0,none⟩=some a0∧w.cell? ⟨g,1,none⟩=some a1∧w.cell? ⟨g,2,none⟩=some a2∧w.cell? ⟨g,3,none⟩=some a3∧w.cell? ⟨g,4,none⟩=some a4∧w.cell? ⟨g,5,none⟩=some a5:=⟨h.cell 0,h.cell 1,h.cell 2,h.cell 3,h.cell 4,h.cell 5⟩
theorem zC7 {w:World} {g:Nat} {t:TypeId} {a0 a1 a2 a3 a4 a5 a6:Value} (h:Blk w g t #[a0,a1,a2,a3,a4,a5,a6]):w.cell? ⟨g,0,none⟩=some a0∧w.cell? ⟨g,1,none⟩=some a1∧w.cell? ⟨g,2,none⟩=some a2∧w.cell? ⟨g,3,none⟩=some a3∧w.cell? ⟨g,4,none⟩=some a4∧w.cell? ⟨g,5,none⟩=some a5∧w.cell? ⟨g,6,none⟩=some a6:=⟨h.cell 0,h.cell 1,h.cell 2,h.cell 3,h.cell 4,h.cell 5,h.cell 6⟩
theorem zC8 {w:World} {g:Nat} {t:TypeId} {a0 a1 a2 a3 a4 a5 a6 a7:Value} (h:Blk w g t #[a0,a1,a2,a3,a4,a5,a6,a7]):w.cell? ⟨g,0,none⟩=some a0∧w.cell? ⟨g,1,none⟩=some a1∧w.cell? ⟨g,2,none⟩=some a2∧w.cell? ⟨g,3,none⟩=some a3∧w.cell? ⟨g,4,none⟩=some a4∧w.cell? ⟨g,5,none⟩=some a5∧w.cell? ⟨g,6,none⟩=some a6∧w.cell? ⟨g,7,none⟩=some a7:=⟨h.cell 0,h.cell 1,h.cell 2,h.cell 3,h.cell 4,h.cell 5,h.cell 6,h.cell 7⟩
theorem zC9 {w:World} {g:Nat} {t:TypeId} {a0 a1 a2 a3 a4 a5 a6 a7 a8:Value} (h:Blk w g t #[a0,a1,a2,a3,a4,a5,a6,a7,a8]):w.cell? ⟨g,0,none⟩=some a0∧w.cell? ⟨g,1,none⟩=some a1∧w.cell? ⟨g,2,none⟩=some a2∧w.cell? ⟨g,3,none⟩=some a3∧w.cell? ⟨g,4,none⟩=some a4∧w.cell? ⟨g,5,none⟩=some a5∧w.cell? ⟨g,6,none⟩=some a6∧w.cell? ⟨g,7,none⟩=some a7∧w.cell? ⟨g,8,none⟩=some a8:=⟨h.cell 0,h.cell 1,h.cell 2,h.cell 3,h.cell 4,h.cell 5,h.cell 6,h.cell 7,h.cell 8⟩
theorem zC10 {w:World} {g:Nat} {t:TypeId} {a0 a1 a2 a3 a4 a5 a6 a7 a8 a9:Value} (h:Blk w g t #[a0,a1,a2,a3,a4,a5,a6,a7,a8,a9]):w.cell? ⟨g,0,none⟩=some a0∧w.cell? ⟨g,1,none⟩=some a1∧w.cell? ⟨g,2,none⟩=some a2∧w.cell? ⟨g,3,none⟩=some a3∧w.cell? ⟨g,4,none⟩=some a4∧w.cell? ⟨g,5,none⟩=some a5∧w.cell? ⟨g,6,none⟩=some a6∧w.cell? ⟨g,7,none⟩=some a7∧w.cell? ⟨g,8,none⟩=some a8∧w.cell? ⟨g,9,none⟩=some a9:=⟨h.cell 0,h.cell 1,h.cell 2,h.cell 3,h.cell 4,h.cell 5,h.cell 6,h.cell 7,h.cell 8,h.cell 9⟩
theorem zC11 {w:World} {g:Nat} {t:TypeId} {a0 a1 a2 a3 a4 a5 a6 a7 a8 a9 a10:Value} (h:Blk w g t #[a0,a1,a2,a3,a4,a5,a6,a7,a8,a9,a10]):w.cell? ⟨g,0,none⟩=some a0∧w.cell? ⟨g,1,none⟩=some a1∧w.cell? ⟨g,2,none⟩=some a2∧w.cell? ⟨g,3,none⟩=some a3∧w.cell? ⟨g,4,none⟩=some a4∧w.cell? ⟨g,5,none⟩=some a5∧w.cell? ⟨g,6,none⟩=some a6∧w.cell? ⟨g,7,none⟩=some a7∧w.cell? ⟨g,8,none⟩=some a8∧w.cell? ⟨g,9,none⟩=some a9∧w.cell? ⟨g,10,none⟩=some a10:=⟨h.cell 0,h.cell 1,h.cell 2,h.cell 3,h.cell 4,h.cell 5,h.cell 6,h.cell 7,h.cell 8,h.cell 9,h.cell 10⟩
theorem zC12 {w:World} {g:Nat} {t:TypeId} {a0 a1 a2 a3 a4 a5 a6 a7 a8 a9 a10 a11:Value} (h:Blk w g t #[a0,a1,a2,a3,a4,a5,a6,a7,a8,a9,a10,a11]):w.cell? ⟨g,0,none⟩=some a0∧w.cell? ⟨g,1,none⟩=some a1∧w.cell? ⟨g,2,none⟩=some a2∧w.cell? ⟨g,3,none⟩=some a3∧w.cell? ⟨g,4,none⟩=some a4∧w.cell? ⟨g,5,none⟩=some a5∧w.cell? ⟨g,6,none⟩=some a6∧w.cell? ⟨g,7,none⟩=some a7∧w.cell? ⟨g,8,none⟩=some a8∧w.cell? ⟨g,9,none⟩=some a9∧w.cell? ⟨g,10,none⟩=some a10∧w.cell? ⟨g,11,none⟩=some a11:=⟨h.cell 0,h.cell 1,h.cell 2,h.cell 3,h.cell 4,h.cell 5,h.cell 6,h.cell 7,h.cell 8,h.cell 9,h.cell 10,h.cell 11⟩
theorem zF6 {w:World} {g:Nat} {t:TypeId} {c:Array Value} (h:Blk w g t c):w.frozen? ⟨g,0,none⟩=false∧w.frozen? ⟨g,1,none⟩=false∧w.frozen? ⟨g,2,none⟩=false∧w.frozen? ⟨g,3,none⟩=false∧w.frozen? ⟨g,4,none⟩=false∧w.frozen? ⟨g,5,none⟩=false:=⟨h.frozen 0,h.frozen 1,h.frozen 2,h.frozen 3,h.frozen 4,h.frozen 5⟩
theorem zF7 {w:World} {g:Nat} {t:TypeId} {c:Array Value} (h:Blk w g t c):w.frozen? ⟨g,0,none⟩=false∧w.frozen? ⟨g,1,none⟩=false∧w.frozen? ⟨g,2,none⟩=false∧w.frozen? ⟨g,3,none⟩=false∧w.frozen? ⟨g,4,none⟩=false∧w.frozen? ⟨g,5,none⟩=false∧w.frozen? ⟨g,6,none⟩=false:=⟨h.frozen 0,h.frozen 1,h.frozen 2,h.frozen 3,h.frozen 4,h.frozen 5,h.frozen 6⟩
theorem zF8 {w:World} {g:Nat} {t:TypeId} {c:Array Value} (h:Blk w g t c):w.frozen? ⟨g,0,none⟩=false∧w.frozen? ⟨g,1,none⟩=false∧w.frozen? ⟨g,2,none⟩=false∧w.frozen? ⟨g,3,none⟩=false∧w.frozen? ⟨g,4,none⟩=false∧w.frozen? ⟨g,5,none⟩=false∧w.frozen? ⟨g,6,none⟩=false∧w.frozen? ⟨g,7,none⟩=false:=⟨h.frozen 0,h.frozen 1,h.frozen 2,h.frozen 3,h.frozen 4,h.frozen 5,h.frozen 6,h.frozen 7⟩
theorem zF9 {w:World} {g:Nat} {t:TypeId} {c:Array Value} (h:Blk w g t c):w.frozen? ⟨g,0,none⟩=false∧w.frozen? ⟨g,1,none⟩=false∧w.frozen? ⟨g,2,none⟩=false∧w.frozen? ⟨g,3,none⟩=false∧w.frozen? ⟨g,4,none⟩=false∧w.frozen? ⟨g,5,none⟩=false∧w.frozen? ⟨g,6,none⟩=false∧w.frozen? ⟨g,7,none⟩=false∧w.frozen? ⟨g,8,none⟩=false:=⟨h.frozen 0,h.frozen 1,h.frozen 2,h.frozen 3,h.frozen 4,h.frozen 5,h.frozen 6,h.frozen 7,h.frozen 8⟩
end Go.Proofs.YtnpfaajhgghpgaaGreatDoor

/- A part of the joined base. -/
import Derived.Test.YtnpfaajhgghpgaaGreatDoorU04
import Derived.WideKeyEntry
import Derived.DeepKeys4
import Derived.WalkSpells
set_option linter.unusedVariables false
set_option maxHeartbeats 8000000
set_option maxRecDepth 100000
namespace Go.Proofs.YtnpfaajhgghpgaaGreatDoor
open Go.RowKit Go.Maps
open Go.WideMaps (KeyLaw)
section
variable {P : Program} {k : TypeId} {ok : Value -> Bool} {w w' : World} {b n : Nat} {M : Lit -> Option Value}
theorem Zho (w:World)(b:Nat)(x y:Obj):ChangeMaps.setBlock (ChangeMaps.setBlock w b x) b y=ChangeMaps.setBlock w b y:=by
 simp[ChangeMaps.setBlock]
theorem Zgl (w:World)(b:Nat)(x:Obj)(h:w.heap[b]? = some x):ChangeMaps.setBlock w b x=w:=by
 have:w.heap.setIfInBounds b x=w.heap:=by
  apply Array.ext_getElem?;intro j;rw[Array.getElem?_setIfInBounds];split
  ·rename_i e;subst e;rw[h];simp[(Array.getElem?_eq_some_iff.1 h).1]
  ·rfl
 unfold ChangeMaps.setBlock;rw[this]
theorem MapIs.entry {t e:TypeId}(h:MapIs P k ok w b n M)(K:KeyLaw P k)(ht:P.underlying t=some (.map k e)){z:Value}(hz:∀u:World,(zeroValue e).run P u = .ok z u)(hzo:ok z=true)(hn:n<maxLen){key val:Value}{kl:Lit}(hkey:keyOf P k key=some kl)(hv:ok val=true) :
  ∃st w1 w2,(Instr.mapEntry t (.map (some b)) key).run P w = .ok (.tuple #[(M kl).getD z,goInt st]) w1/\(Instr.lookup t (.map (some b)) key false).run P w1 = .ok ((M kl).getD z) w1/\(Instr.entryStore t (.map (some b)) (goInt st) val).run P w1 = .ok () w2 /\
   MapIs P k ok w2 b (n+1) (upd M kl val)/\w.grownBy w2 (some b)/\w2.heap.size=w.heap.size/\w.grownBy w1 (some b)/\w1.heap.size=w.heap.size:=by
 obtain⟨w',hrun,h1,h2,h3⟩:=h.store (Keyed.of_law K) ht hn hkey hv;have hlook:=h.look (Keyed.of_law K) ht (hz w) hzo hkey;obtain⟨wz,hrunz,z1,z2,z3⟩:=h.store (Keyed.of_law K) ht hn hkey hzo;have hself:Lit.sameKey kl kl=true:=WideAt.sameKey_self ((Keyed.of_law K).key hkey);obtain⟨D,⟨es,clock,hb,F,_⟩,_⟩:=h;have hlt:b<w.heap.size:=(Array.getElem?_eq_some_iff.1 hb).1;obtain⟨v0,st,es1,clock1,r1,r0,r2⟩:=Go.WideElems.entry_then_store K ht hz hb F hkey;have hw1:(ChangeMaps.setBlock w b (.map es1 clock1)).heap[b]? = some (.map es1 clock1):=by
  simp[ChangeMaps.setBlock,hlt]
 obtain⟨es',clock',r3,r4⟩:=r2 (ChangeMaps.setBlock w b (.map es1 clock1)) val hw1;rw[hrun]at r4;injection r4 with _ r4;rw[Zho]at r3;rcases K.find w hkey es.toList F.keys with ⟨f1,f2⟩|⟨j,e0,f1,f2,f3⟩
 ·have hE:(Instr.mapEntry t (.map (some b)) key).run P w = .ok (.tuple #[z,goInt clock]) (ChangeMaps.setBlock w b (.map (es.push ⟨key,z,clock⟩) (clock+1))):=by
   simp[Instr.mapEntry,run_underlying ht,MapKept.run_getObj_map hb,K.check w false hkey,f1,hz,MapKept.run_setObj_map _ hb,Result.andThen,ChangeMaps.setBlock,goInt]
  have hU:(Instr.mapUpdate t (.map (some b)) key z).run P w = .ok () (ChangeMaps.setBlock w b (.map (es.push ⟨key,z,clock⟩) (clock+1))):=by
   simp[Instr.mapUpdate,run_underlying ht,MapKept.run_getObj_map hb,K.check w false hkey,f1,MapKept.run_setObj_map _ hb,Result.andThen,ChangeMaps.setBlock]
  have hvz:(M kl).getD z=z:=by
   have hl2:(Instr.lookup t (.map (some b)) key false).run P w = .ok z w:=by
    simp[Instr.lookup,run_underlying ht,MapKept.run_getObj_map hb,K.check w _ hkey,f1,hz]
   rw[hl2]at hlook;injection hlook with a _;exact a.symm
  rw[hE]at r1;injection r1 with q1 q2;injection q1 with q1;have q3:goInt clock=goInt st:=by
   have:=congrArg (fun a:Array Value=>a[1]?) q1;simpa using this
  rw[hrunz]at hU;injection hU with _ hU;refine⟨clock,wz,w',?_,?_,?_,h1,h2,h3,z2,z3⟩
  ·rw[hE,hvz,hU]
  ·have:=z1.look (Keyed.of_law K) ht (hz wz) hzo hkey;rw[this,hvz];simp[upd,hself]
  ·rw[hU,q2,q3,r3,r4]
 ·have hj:es[j]? = some e0:=by simpa using f2
  have hsame:es.modify j (fun e=>{ e with key:=key })=es:=by
   apply Array.ext';rw[Array.toList_modify,ChangeMaps.modify_eq_set _ _ _ _ f2];have:({ e0 with key:=key }:MapEntry)=e0:=by rw[<-f3]
   rw[this];exact Go.WideElems.set_self _ _ _ f2
  have hE:(Instr.mapEntry t (.map (some b)) key).run P w = .ok (.tuple #[e0.val,goInt e0.born]) (ChangeMaps.setBlock w b (.map es clock)):=by
   simp[Instr.mapEntry,run_underlying ht,MapKept.run_getObj_map hb,K.check w false hkey,f1,hj,f3,K.stays w hkey,hsame,MapKept.run_setObj_map _ hb,Result.andThen,ChangeMaps.setBlock,goInt]
  have hvz:(M kl).getD z=e0.val:=by
   have hl2:(Instr.lookup t (.map (some b)) key false).run P w = .ok e0.val w:=by
    simp[Instr.lookup,run_underlying ht,MapKept.run_getObj_map hb,K.check w _ hkey,f1]
   rw[hl2]at hlook;injection hlook with a _;exact a.symm
  rw[Zgl _ _ _ hb]at hE;rw[hE]at r1;injection r1 with q1 q2;injection q1 with q1;have q3:goInt e0.born=goInt st:=by
   have:=congrArg (fun a:Array Value=>a[1]?) q1;simpa using this
  rw[<-q2]at r3;refine⟨e0.born,w,w',?_,hlook,?_,h1,h2,h3,World.grownBy.refl w _,rfl⟩
  ·rw[hE,hvz]
  ·rw[q3,r3,r4]
end
end Go.Proofs.YtnpfaajhgghpgaaGreatDoor
namespace Go.Proofs.YtnpfaajhgghpgaaGreatDoor
open Go.Shelf Go.RowKit Go.Maps
open Go.WideMaps (KeyLaw)
def okInt:Value->Bool
 | .int .i64 _=>true
 | _=>false
theorem Zrb {v:Value}(h:okInt v=true):∃z:Int,v = .int .i64 z:=by
 unfold okInt at h;split at h
 ·exact⟨_,rfl⟩
 ·cases h
theorem zeroInt (w:World):(zeroValue 3).run Tryz.prog w = .ok (.int .i64 0) w:=Tryz.zeroValue3 w
def cntG (S:ByteArray->Nat):ByteArray->Option Value:=fun x=>if S x=0 then none else some (.int .i64 (S x))
theorem Zj3 (S:ByteArray->Nat)(x:ByteArray):(cntG S x).getD (.int .i64 0) = .int .i64 (S x):=by
 unfold cntG;by_cases h:S x=0 <;> simp[h]
def bmpS (S:ByteArray->Nat)(x:ByteArray):ByteArray->Nat:=fun y=>if y=x then S x+1 else S y
theorem Zoy (S:ByteArray->Nat)(x:ByteArray):∀kl,upd (mapG (cntG S)) (.string x.data.toList) (.int .i64 ((S x:Int)+1)) kl=mapG (cntG (bmpS S x)) kl:=fun kl=>by
 rw[mapG_upd];cases kl with
 | string l=>
  show updG (cntG S) x _ _=cntG (bmpS S x) _;unfold updG cntG bmpS;by_cases h:(⟨l.toArray⟩:ByteArray)=x <;> simp[h]
 | _=>rfl
def okBool:Value->Bool
 | .bool _=>true
 | _=>false
theorem zeroBool (w:World):(zeroValue 4).run Tryz.prog w = .ok (.bool false) w:=Tryz.zeroValue4 w
def lit2 (x y:ByteArray):Lit:=.string (keyBytes [.string x.data.toList,.string y.data.toList])
theorem Zoz {x y x' y':ByteArray}(h1:x.size<=maxLen)(h2:y.size<=maxLen)(h3:x'.size<=maxLen)(h4:y'.size<=maxLen)(h:lit2 x y=lit2 x' y'):x=x'/\y=y':=by
 unfold lit2 at h;injection h with h;have hl:∀s:ByteArray,s.size<=maxLen->s.data.toList.length<=maxLen:=fun s hs=>by simpa using hs
 have:=keyBytes_inj (l:=[.string x.data.toList,.string y.data.toList]) (l':=[.string x'.data.toList,.string y'.data.toList]) ⟨trivial,trivial,trivial⟩
  (fun a ha=>by simp at ha;rcases ha with rfl|rfl <;> simp only[Lit.keyWf] <;> (first|exact hl _ h1|exact hl _ h2))
  (fun a ha=>by simp at ha;rcases ha with rfl|rfl <;> simp only[Lit.keyWf] <;> (first|exact hl _ h3|exact hl _ h4)) h
 injection this with e1 e2;injection e2 with e2 _;injection e1 with e1;injection e2 with e2;exact⟨ba_eq e1,ba_eq e2⟩
theorem Zmq {x y x' y':ByteArray}(h1:x.size<=maxLen)(h2:y.size<=maxLen)(h3:x'.size<=maxLen)(h4:y'.size<=maxLen):(lit2 x y).sameKey (lit2 x' y')=decide (x=x'/\y=y'):=by
 by_cases h:x=x'/\y=y'
 ·obtain⟨rfl,rfl⟩:=h;rw[WideAt.sameKey_self (by trivial)];simp
 ·rw[sameKey_ne (fun e=>h (Zoz h1 h2 h3 h4 e))];simp[h]
theorem lnkLaw:KeyLaw Tryz.prog 142:=deep_law_laid (by kernel_rfl) (m:=2) (by omega) (of_decide_eq_true (by kernel_rfl)) (by kernel_rfl) (by kernel_rfl)
theorem lnkKeyed:Keyed Tryz.prog 142:=Keyed.of_law lnkLaw
theorem Zav (x y:ByteArray)(hx:x.size<=maxLen)(hy:y.size<=maxLen):keyOf Tryz.prog 142 (.agg #[.string x,.string y])=some (lit2 x y):=by
 have hc:Tryz.prog.cellsOf 142 = 2:=by kernel_rfl
 have hc2:Tryz.prog.cellsOf 9 = 1:=by kernel_rfl
 have hk:Tryz.prog.keyType 142 = true:=by kernel_rfl
 obtain⟨d,hd⟩:∃d,Tryz.prog.types.size+1=d+2:=⟨Tryz.prog.types.size - 1,by
  have:1<=Tryz.prog.types.size:=of_decide_eq_true (by kernel_rfl);omega⟩
 unfold keyOf;rw[Tryz.underlying142];simp only[hk,Value.formed,Tryz.underlying142,hc,hd];simp[Program.keyLits,Tryz.underlying142,Tryz.underlying9,hc,hc2,Value.cells,hx,hy,lit2]
def Is2 (ok:Value->Bool)(w:World)(b n:Nat)(f:ByteArray->ByteArray->Option Value):Prop:=∃M,MapIs Tryz.prog 142 ok w b n M/\∀x y,x.size<=maxLen->y.size<=maxLen->M (lit2 x y)=f x y
section
variable {ok : Value -> Bool} {w w' : World} {b n : Nat} {f f' : ByteArray -> ByteArray -> Option Value}
theorem Is2.made (w:World)(ok:Value->Bool):Is2 ok (w.alloc (.map #[] 0)) w.heap.size 0 (fun _ _=>none):=⟨_,MapIs.made w Tryz.prog _ ok,fun _ _ _ _=>rfl⟩
theorem Is2.kept {S:Nat->Prop}(h:Is2 ok w b n f)(k:Kept S w w')(hb:¬S b):Is2 ok w' b n f:=by
 obtain⟨M,h1,h2⟩:=h;exact⟨M,h1.kept k hb,h2⟩
theorem Is2.mono {n':Nat}(h:Is2 ok w b n f)(hn:n<=n'):Is2 ok w b n' f:=by
 obtain⟨M,h1,h2⟩:=h;exact⟨M,h1.mono hn,h2⟩
theorem Is2.congr (h:Is2 ok w b n f)(he:∀x y,f x y=f' x y):Is2 ok w b n f':=by
 obtain⟨M,h1,h2⟩:=h;exact⟨M,h1,fun x y hx hy=>(h2 x y hx hy).trans (he x y)⟩
theorem Is2.lt (h:Is2 ok w b n f):b<w.heap.size:=by
 obtain⟨M,h1,h2⟩:=h;exact h1.lt
theorem Is2.ne_blk {g:Nat}{t:TypeId}{cs:Array Value}(h:Is2 ok w b n f)(hg:Blk w g t cs):b≠g:=by
 obtain⟨M,h1,h2⟩:=h;exact h1.ne_blk hg
def upd2 (f:ByteArray->ByteArray->Option Value)(x y:ByteArray)(v:Value):ByteArray->ByteArray->Option Value:=fun a b=>if a=x/\b=y then some v else f a b
theorem Zb3 {M:Lit->Option Value}(h:∀x y,x.size<=maxLen->y.size<=maxLen->M (lit2 x y)=f x y){x y:ByteArray}(hx:x.size<=maxLen)(hy:y.size<=maxLen)(v:Value):∀a b,a.size<=maxLen->b.size<=maxLen->upd M (lit2 x y) v (lit2 a b)=upd2 f x y v a b:=fun a b ha hb=>by
 unfold upd upd2;rw[Zmq ha hb hx hy];by_cases e:a=x/\b=y
 ·simp[e]
 ·simp only[e,decide_false,Bool.false_eq_true,if_false];exact h a b ha hb
end
def boolF (f:ByteArray->ByteArray->Option Bool):ByteArray->ByteArray->Option Value:=fun x y=>(f x y).map .bool
def setF (f:ByteArray->ByteArray->Bool):ByteArray->ByteArray->Option Value:=fun x y=>if f x y then some (.bool true) else none
def cntF (f:ByteArray->ByteArray->Nat):ByteArray->ByteArray->Option Value:=fun x y=>if f x y=0 then none else some (.int .i64 (f x y))
theorem Zhp (f:ByteArray->ByteArray->Option Bool)(x y:ByteArray):(boolF f x y).getD (.bool false) = .bool ((f x y).getD false):=by
 unfold boolF;cases f x y <;> rfl
theorem Zj4 (f:ByteArray->ByteArray->Bool)(x y:ByteArray):(setF f x y).getD (.bool false) = .bool (f x y):=by
 unfold setF;cases f x y <;> rfl
theorem Zo0 (f:ByteArray->ByteArray->Nat)(x y:ByteArray):(cntF f x y).getD (.int .i64 0) = .int .i64 (f x y):=by
 unfold cntF;by_cases h:f x y=0 <;> simp[h]
theorem Zbe {P:Program}{k:TypeId}{ok:Value->Bool}{w:World}{b n base e size m:Nat}{M:Lit->Option Value}{v:Value}{xs:List Value}(h:w.ownsRow base e size v m xs)(hm:MapIs P k ok w b n M):v.ownBlock≠some b:=by
 intro hv;rcases h.2 with ⟨rfl,_⟩|⟨g,cap,cur,rfl,_,hh,_⟩
 ·cases hv
 ·cases hv;obtain⟨D,⟨es,clock,hb,_⟩,_⟩:=hm;rw[hb]at hh;cases hh
theorem Za1 {w:World}{g:Nat}{t:TypeId}{cs:Array Value}{base e size m:Nat}{v:Value}{xs:List Value}(h:w.ownsRow base e size v m xs)(hg:Blk w g t cs)(hne:e≠t):v.ownBlock≠some g:=by
 intro hv;rcases h.2 with ⟨rfl,_⟩|⟨g',cap,cur,rfl,_,hh,_⟩
 ·cases hv
 ·cases hv;unfold Blk at hg;rw[hg]at hh;injection hh with hh;injection hh with _ ht;exact hne ht.symm
theorem Ztj {w:World}{base base' e e' size size' n n':Nat}{v v':Value}{xs xs':List Value}(h:w.ownsRow base e size v n xs)(h':w.ownsRow base' e' size' v' n' xs')(hne:e≠e'):Apart v v':=by
 intro g hg hg';rcases h.2 with ⟨rfl,_⟩|⟨g1,cap,cur,rfl,_,hh,_⟩
 ·cases hg
 ·rcases h'.2 with ⟨rfl,_⟩|⟨g2,cap2,cur2,rfl,_,hh2,_⟩
  ·cases hg'
  ·cases hg;cases hg';rw[hh]at hh2;injection hh2 with hh2;injection hh2 with _ ht;exact hne ht
end Go.Proofs.YtnpfaajhgghpgaaGreatDoor
namespace Go.Proofs.YtnpfaajhgghpgaaGreatDoor
open Go.Shelf Go.RowKit Go.Maps
def okMp:Value->Bool
 | .map _=>true
 | _=>false
def SomeMap (k:TypeId)(ok:Value->Bool)(w:World)(b n:Nat):Prop:=∃M,MapIs Tryz.prog k ok w b n M
def MapOf (k:TypeId)(S:Nat->Prop)(w:World)(b n:Nat):Prop:=∃M,MapIs Tryz.prog k okMp w b n M/\∀kl v,M kl=some v->∃q,v = .map (some q)/\S q
section
variable {k : TypeId} {ok : Value -> Bool} {w w' : World} {b n n' : Nat} {S T : Nat -> Prop}
theorem SomeMap.kept (h:SomeMap k ok w b n)(hk:Kept T w w')(hn:¬T b):SomeMap k ok w' b n:=by obtain⟨M,h⟩:=h;exact⟨M,h.kept hk hn⟩
theorem SomeMap.mono (h:SomeMap k ok w b n)(hn:n<=n'):SomeMap k ok w b n':=by obtain⟨M,h⟩:=h;exact⟨M,h.mono hn⟩
theorem SomeMap.lt (h:SomeMap k ok w b n):b<w.heap.size:=by obtain⟨M,h⟩:=h;exact h.lt
theorem SomeMap.made (w:World)(k:TypeId)(ok:Value->Bool):SomeMap k ok (w.alloc (.map #[] 0)) w.heap.size 0:=⟨_,MapIs.made w Tryz.prog k ok⟩
theorem MapOf.kept (h:MapOf k S w b n)(hk:Kept T w w')(hn:¬T b):MapOf k S w' b n:=by obtain⟨M,h,h2⟩:=h;exact⟨M,h.kept hk hn,h2⟩
theorem MapOf.mono (h:MapOf k S w b n)(hn:n<=n'):MapOf k S w b n':=by obtain⟨M,h,h2⟩:=h;exact⟨M,h.mono hn,h2⟩
theorem MapOf.more (h:MapOf k S w b n)(hs:∀q,S q->T q):MapOf k T w b n:=by
 obtain⟨M,h,h2⟩:=h;exact⟨M,h,fun kl v hv=>by obtain⟨q,e,hq⟩:=h2 kl v hv;exact⟨q,e,hs q hq⟩⟩
theorem MapOf.lt (h:MapOf k S w b n):b<w.heap.size:=by obtain⟨M,h,_⟩:=h;exact h.lt
theorem MapOf.made (w:World)(k:TypeId)(S:Nat->Prop):MapOf k S (w.alloc (.map #[] 0)) w.heap.size 0:=⟨_,MapIs.made w Tryz.prog k okMp,fun kl v h=>by cases h⟩
end
structure DcIn (w:World) (db mb:Nat) (half added:Int) (S B:Nat->Prop) (n:Nat):Prop where
 blk:Blk w db 191 #[.int .i64 half,.int .i64 added,.map (some mb)]
 few:0<=added/\added<=n
 outer:MapOf 9 S w mb n
 inner:∀q,S q->SomeMap 3 okInt w q n
 nm:¬S mb
 nd:¬S db
 ne:mb≠db
 all:∀q,B q↔q=db\/q=mb\/S q
def DcAt (w:World)(db:Nat)(B:Nat->Prop)(n:Nat):Prop:=∃mb half added S,DcIn w db mb half added S B n
theorem DcAt.kept {w w':World}{db n:Nat}{B T:Nat->Prop}(h:DcAt w db B n)(k:Kept T w w')(hT:∀q,B q->¬T q):DcAt w' db B n:=by
 obtain⟨mb,half,added,S,h⟩:=h;exact⟨mb,half,added,S,h.blk.kept k (hT _ ((h.all _).2 (Or.inl rfl))),h.few,h.outer.kept k (hT _ ((h.all _).2 (Or.inr (Or.inl rfl)))),fun q hq=>(h.inner q hq).kept k (hT _ ((h.all _).2 (Or.inr (Or.inr hq)))),h.nm,h.nd,h.ne,h.all⟩
theorem DcAt.lt {w:World}{db n:Nat}{B:Nat->Prop}(h:DcAt w db B n):∀q,B q->q<w.heap.size:=by
 obtain⟨mb,half,added,S,h⟩:=h;intro q hq;rcases (h.all q).1 hq with rfl|rfl|hq
 ·exact h.blk.lt
 ·exact h.outer.lt
 ·exact (h.inner q hq).lt
theorem DcAt.mono {w:World}{db n n':Nat}{B:Nat->Prop}(h:DcAt w db B n)(hn:n<=n'):DcAt w db B n':=by
 obtain⟨mb,half,added,S,h⟩:=h;exact⟨mb,half,added,S,h.blk,⟨h.few.1,by have:=h.few.2;omega⟩,h.outer.mono hn,fun q hq=>(h.inner q hq).mono hn,h.nm,h.nd,h.ne,h.all⟩
structure SsIn (w:World) (sb mb:Nat) (gap:Int) (S T B:Nat->Prop) (n:Nat):Prop where
 blk:Blk w sb 198 #[.int .i64 gap,.map (some mb)]
 outer:MapOf 9 S w mb n
 mid:∀q,S q->MapOf 3 T w q n
 inner:∀q,T q->SomeMap 9 okBool w q n
 nm:¬S mb/\¬T mb
 nd:¬S sb/\¬T sb
 ne:mb≠sb
 st:∀q,S q->¬T q
 all:∀q,B q↔q=sb\/q=mb\/S q\/T q
def SsAt (w:World)(sb:Nat)(B:Nat->Prop)(n:Nat):Prop:=∃mb gap S T,SsIn w sb mb gap S T B n
theorem SsAt.kept {w w':World}{sb n:Nat}{B R:Nat->Prop}(h:SsAt w sb B n)(k:Kept R w w')(hT:∀q,B q->¬R q):SsAt w' sb B n:=by
 obtain⟨mb,gap,S,T,h⟩:=h;exact⟨mb,gap,S,T,h.blk.kept k (hT _ ((h.all _).2 (Or.inl rfl))),h.outer.kept k (hT _ ((h.all _).2 (Or.inr (Or.inl rfl)))),fun q hq=>(h.mid q hq).kept k (hT _ ((h.all _).2 (Or.inr (Or.inr (Or.inl hq))))),fun q hq=>(h.inner q hq).kept k (hT _ ((h.all _).2 (Or.inr (Or.inr (Or.inr hq))))),h.nm,h.nd,h.ne,h.st,h.all⟩
theorem SsAt.lt {w:World}{sb n:Nat}{B:Nat->Prop}(h:SsAt w sb B n):∀q,B q->q<w.heap.size:=by
 obtain⟨mb,gap,S,T,h⟩:=h;intro q hq;rcases (h.all q).1 hq with rfl|rfl|hq|hq
 ·exact h.blk.lt
 ·exact h.outer.lt
 ·exact (h.mid q hq).lt
 ·exact (h.inner q hq).lt
theorem SsAt.mono {w:World}{sb n n':Nat}{B:Nat->Prop}(h:SsAt w sb B n)(hn:n<=n'):SsAt w sb B n':=by
 obtain⟨mb,gap,S,T,h⟩:=h;exact⟨mb,gap,S,T,h.blk,h.outer.mono hn,fun q hq=>(h.mid q hq).mono hn,fun q hq=>(h.inner q hq).mono hn,h.nm,h.nd,h.ne,h.st,h.all⟩
end Go.Proofs.YtnpfaajhgghpgaaGreatDoor
namespace Go.Proofs.YtnpfaajhgghpgaaGreatDoor
open Go.Shelf Go.RowKit Go.Maps
theorem zeroMp (w:World):(zeroValue 229).run Tryz.prog w = .ok (.map none) w:=Tryz.zeroValue229 w
theorem zeroI64 (w:World):(zeroValue 2).run Tryz.prog w = .ok (.int .i64 0) w:=Tryz.zeroValue2 w
def isMp (T:TypeId):Prop:=∀(w:World) (r:Option Nat),(binOp .eql T (.map r) (.map none)).run Tryz.prog w = .ok (.bool r.isNone) w
theorem Ziv {T k e:TypeId}(h:Tryz.prog.underlying T=some (.map k e)):isMp T:=fun w r=>run_eql_map_nil w T k e r h
theorem Zj5 (M:Lit->Option Value)(s:ByteArray)(v:Value):upd M (.string s.data.toList) v (.string s.data.toList)=some v:=by
 unfold upd;rw[WideAt.sameKey_self (by trivial)];simp
structure Grows (S S':Nat->Prop) (n:Nat):Prop where
 old:∀q,S q->S' q
 new:∀q,S' q->S q\/n<=q
theorem Grows.refl (S:Nat->Prop)(n:Nat):Grows S S n:=⟨fun _ h=>h,fun _ h=>Or.inl h⟩
theorem Grows.trans {S S' S'':Nat->Prop}{n n':Nat}(h:Grows S S' n)(h':Grows S' S'' n')(hn:n<=n'):Grows S S'' n:=
 ⟨fun q hq=>h'.old q (h.old q hq),fun q hq=>(h'.new q hq).elim (h.new q) (fun h=>Or.inr (Nat.le_trans hn h))⟩
theorem SomeMap.grown {k:TypeId}{ok:Value->Bool}{w w':World}{b n g:Nat}(h:SomeMap k ok w b n)(hg:w.grownBy w' (some g))(hn:b≠g):SomeMap k ok w' b n:=by obtain⟨M,h⟩:=h;exact⟨M,h.grown hg (fun e=>hn (Option.some.inj e))⟩
theorem Zo1 (w:World)(db mb:Nat)(half added:Int)(S B:Nat->Prop)(n:Nat)(h:DcIn w db mb half added S B n)(x:ByteArray)(t v:Int)(hx:x.size<=maxLen)(ht:0<=t/\t<=1099511627776)(hn:n+2<maxLen) :
  Calls Tryz.prog 115 #[.pointer (some ⟨db,0,none⟩),.string x,.int .i64 t,.int .i64 v] w fun e w'=>e = .returned (.tuple #[])/\∃S' B',DcIn w' db mb half added S' B' (n+1)/\Grows B B' w.heap.size/\Kept B w w':=by
 have HH:=zh h;have hmm:=@run_makeMap Tryz.prog;have hme:=Ziv Tryz.underlying229;unfold isMp at hme;by_cases hv:v=0
 ·subst hv;clear h;go_enter Tryz.func115,Tryz.ntmps115;go_wp2_with fail
  (try simp only[Exit.inBlock,Exit.then]);refine bodyPost_ret (results_none rfl _ _ _) rfl ?_
  have H:=HH.o;exact⟨rfl,S,B,⟨H.blk,⟨H.few.1,by have:=H.few.2;omega⟩,H.outer.mono (Nat.le_succ _),fun q hq=>(H.inner q hq).mono (Nat.le_succ _),H.nm,H.nd,H.ne,H.all⟩,Grows.refl _ _,Kept.refl _ _⟩
 ·have hv0:(v == 0)=false:=by simp[hv]
  have c2:w.cell? ⟨db,2,none⟩=some (.map (some mb)):=h.blk.cell 2;have key:=(int_keyed Tryz.underlying3:Keyed Tryz.prog 3)
  have HKEY:Hid (keyOf Tryz.prog 3 (.int .i64 t)=some (.int .i64 t)):=zh (keyOf_int_mk Tryz.underlying3 (by simp[Lit.wf,IntKind.min,IntKind.max,IntKind.signed,IntKind.bits];omega));obtain⟨M,hM,hMS⟩:=h.outer;have HM:=zh hM;have HMS:=zh hMS;cases hr:M (.string x.data.toList) with
  | some r=>
   obtain⟨q,rfl,hq⟩:=hMS _ _ hr;have HG:Hid ((M (.string x.data.toList)).getD (.map none) = .map (some q)):=zh (by rw[hr];rfl);obtain⟨M2,hM2⟩:=h.inner q hq;have HM2:=zh hM2;have hok:okInt ((M2 (.int .i64 t)).getD (.int .i64 0))=true:=by
    cases h2:M2 (.int .i64 t) with
    | none=>rfl
    | some u=>exact hM2.ok_of h2
   obtain⟨z,hz⟩:=Zrb hok;have HZ:=zh hz;have hqm:q≠mb:=fun e=>h.nm (e ▸ hq);have hqd:q≠db:=fun e=>h.nd (e ▸ hq);have HQ:=zh hq;have HQM:=zh hqm;have HQD:=zh hqd;clear h hM hMS hr hM2 hok hz hq hqm hqd key;go_enter Tryz.func115,Tryz.ntmps115
   go_wp2_with (first
    | (at_lookup;refine Zao _ rfl _ _ 189 rfl 9 229 (string_keyed Tryz.underlying9) Tryz.underlying189 okMp _ (zeroMp _) rfl mb n M rfl HM.o _ _ rfl (WideMaps.keyOf_string_mk Tryz.underlying9 hx) _ HG.o ?_)
    | (at_lookup;refine Zao _ rfl _ _ 229 rfl 3 2 (int_keyed Tryz.underlying3) Tryz.underlying229 okInt _ (zeroI64 _) rfl q n M2 rfl HM2.o _ _ rfl HKEY.o _ HZ.o ?_)
    | (at_mapUpdate;refine Zag _ rfl _ _ _ 229 rfl 3 2 (int_keyed Tryz.underlying3) Tryz.underlying229 okInt q n M2 rfl HM2.o (by omega) _ _ _ rfl rfl HKEY.o rfl ?_;intro w3 hm3 hg3 hs3)
    | fail)
   go_end0;have H:=HH.o;have hk:Kept (fun i=>i=q) w w3:=(Kept.refl _ w).grown hg3 (fun j hj=>Or.inl (by cases hj;rfl));refine⟨rfl,S,B,⟨H.blk.kept hk (fun e=>HQD.o e.symm),⟨H.few.1,by have:=H.few.2;omega⟩,(H.outer.kept hk (fun e=>HQM.o e.symm)).mono (Nat.le_succ _),fun i hi=>?_,H.nm,H.nd,H.ne,H.all⟩,Grows.refl _ _,hk.mono (fun i _ e=>by rw[e];exact (H.all q).2 (Or.inr (Or.inr HQ.o)))⟩;by_cases e:i=q
   ·subst e;exact⟨_,hm3⟩
   ·exact ((H.inner i hi).kept hk e).mono (Nat.le_succ _)
  | none=>
   have HG:Hid ((M (.string x.data.toList)).getD (.map none) = .map none):=zh (by rw[hr];rfl);obtain⟨wa,hwa⟩:=zG (w.alloc (.map #[] 0));have hka:Kept (fun _=>False) w wa:=by rw[<-hwa];exact (Kept.refl _ w).alloc _
   have hsa:wa.heap.size=w.heap.size+1:=by rw[<-hwa];simp
   have HMA:Hid (MapIs Tryz.prog 9 okMp wa mb n M):=zh (by rw[<-hwa];exact HM.o.alloc _);have HNW:Hid (MapIs Tryz.prog 3 okInt wa w.heap.size 0 (fun _=>none)):=zh (by rw[<-hwa];exact MapIs.made w Tryz.prog _ _);have hmlt:mb<w.heap.size:=hM.lt;have hdlt:db<w.heap.size:=h.blk.lt;have HME:=zh h.ne;have ca:wa.cell? ⟨db,2,none⟩=some (.map (some mb)):=(h.blk.kept hka (fun h=>h)).cell 2;have HBA:Hid (Blk wa db 191 #[.int .i64 half,.int .i64 added,.map (some mb)]):=zh (h.blk.kept hka (fun h=>h));have HKA:=zh hka;have HSA:=zh hsa;clear h hM hMS hr hka hsa key;go_enter Tryz.func115,Tryz.ntmps115
   go_upto_region 3 with (first
    | (at_lookup;refine Zao _ rfl _ _ 189 rfl 9 229 (string_keyed Tryz.underlying9) Tryz.underlying189 okMp _ (zeroMp _) rfl mb n M rfl HM.o _ _ rfl (WideMaps.keyOf_string_mk Tryz.underlying9 hx) _ HG.o ?_)
    | (at_mapUpdate;refine Zag _ rfl _ _ _ 189 rfl 9 229 (string_keyed Tryz.underlying9) Tryz.underlying189 okMp mb n M rfl HMA.o (by omega) _ (.map (some w.heap.size)) _ rfl rfl (WideMaps.keyOf_string_mk Tryz.underlying9 hx) rfl ?_;intro w2 hm2 hg2 hs2;have HM2:=zh hm2;have HGG2:=zh hg2;have HSS2:=zh hs2;clear hm2 hg2 hs2)
    | fail)
   have HG2:Hid ((upd M (.string x.data.toList) (.map (some w.heap.size)) (.string x.data.toList)).getD (.map none) = .map (some w.heap.size)):=zh (by rw[Zj5];rfl);have HNW2:Hid (MapIs Tryz.prog 3 okInt w2 w.heap.size 0 (fun _=>none)):=zh (HNW.o.grown HGG2.o (fun e=>by injection e with e;omega));have HB2:Hid (Blk w2 db 191 #[.int .i64 half,.int .i64 added,.map (some mb)]):=zh (HBA.o.grown HGG2.o (fun e=>HME.o (Option.some.inj e).symm));have c22:w2.cell? ⟨db,2,none⟩=some (.map (some mb)):=HB2.o.cell 2;have HWA:=zh hwa;clear hwa c2 ca
   go_wp2_with (first
    | (at_lookup;refine Zao _ rfl _ _ 189 rfl 9 229 (string_keyed Tryz.underlying9) Tryz.underlying189 okMp _ (zeroMp _) rfl mb (n+1) _ rfl HM2.o _ _ rfl (WideMaps.keyOf_string_mk Tryz.underlying9 hx) _ HG2.o ?_)
    | (at_lookup;refine Zao _ rfl _ _ 229 rfl 3 2 (int_keyed Tryz.underlying3) Tryz.underlying229 okInt _ (zeroI64 _) rfl w.heap.size 0 _ rfl HNW2.o _ _ rfl HKEY.o (.int .i64 0) rfl ?_)
    | (at_mapUpdate;refine Zag _ rfl _ _ _ 229 rfl 3 2 (int_keyed Tryz.underlying3) Tryz.underlying229 okInt w.heap.size 0 _ rfl HNW2.o (by omega) _ _ _ rfl rfl HKEY.o rfl ?_;intro w3 hm3 hg3 hs3)
    | fail)
   go_end0;have H:=HH.o;have hk3:Kept (fun i=>i=mb) w w3:=((HKA.o.mono (fun _ _ h=>h.elim)).grown HGG2.o (fun j hj=>Or.inl (by cases hj;rfl))).grown hg3 (fun j hj=>Or.inr (by cases hj;exact zr _));refine⟨rfl,fun i=>S i\/i=w.heap.size,fun i=>B i\/i=w.heap.size,⟨H.blk.kept hk3 (fun e=>HME.o e.symm),⟨H.few.1,by have:=H.few.2;omega⟩,?_,fun i hi=>?_,?_,?_,H.ne,fun i=>?_⟩,⟨fun i h=>Or.inl h,fun i h=>h.elim Or.inl (fun e=>Or.inr (by omega))⟩,hk3.mono (fun i _ e=>by rw[e];exact (H.all mb).2 (Or.inr (Or.inl rfl)))⟩
   ·refine⟨_,HM2.o.grown hg3 (fun e=>by injection e with e;omega),fun kl u hu=>?_⟩;unfold upd at hu;split at hu
    ·injection hu with hu;exact⟨_,hu.symm,Or.inr rfl⟩
    ·obtain⟨q,e,hq⟩:=HMS.o kl u hu;exact⟨q,e,Or.inl hq⟩
   ·rcases hi with hi|rfl
    ·exact ((H.inner i hi).kept hk3 (fun e=>H.nm (e ▸ hi))).mono (Nat.le_succ _)
    ·exact⟨_,hm3.mono (by omega)⟩
   ·rintro (h|h)
    ·exact H.nm h
    ·omega
   ·rintro (h|h)
    ·exact H.nd h
    ·omega
   ·constructor
    ·rintro (h|h)
     ·rcases (H.all i).1 h with h|h|h
      ·exact Or.inl h
      ·exact Or.inr (Or.inl h)
      ·exact Or.inr (Or.inr (Or.inl h))
     ·exact Or.inr (Or.inr (Or.inr h))
    ·rintro (h|h|h|h)
     ·exact Or.inl ((H.all i).2 (Or.inl h))
     ·exact Or.inl ((H.all i).2 (Or.inr (Or.inl h)))
     ·exact Or.inl ((H.all i).2 (Or.inr (Or.inr h)))
     ·exact Or.inr h
end Go.Proofs.YtnpfaajhgghpgaaGreatDoor
namespace Go.Proofs.YtnpfaajhgghpgaaGreatDoor
open Go.Shelf Go.RowKit Go.Maps
structure GrpIn {α:Type} (c:α->List Value) (sz:Nat) (e:TypeId) (w:World) (mb n base:Nat) (G:ByteArray->Option Value) (R:ByteArray->List α):Prop where
 map:MapIs Tryz.prog 9 okSl w mb n (mapG G)
 none_:∀p,R p = []->G p=none
 some_:∀p,R p≠[]->∃g cap,G p=some (.slice (some ⟨g,0,none⟩) (R p).length cap)/\w.ownsRow base e sz (.slice (some ⟨g,0,none⟩) (R p).length cap) (R p).length ((R p).flatMap c)/\g≠mb
 apart:∀p p' v v',p≠p'->G p=some v->G p'=some v'->v.ownBlock≠v'.ownBlock
section
variable {α : Type} {c : α -> List Value} {sz : Nat} {e : TypeId} {w w' : World} {mb n base : Nat} {G : ByteArray -> Option Value} {R R' : ByteArray -> List α} {S : Nat -> Prop}
theorem GrpIn.kept (h:GrpIn c sz e w mb n base G R)(k:Kept S w w')(hm:¬S mb)(hS:∀p g,∀v,G p=some v->v.ownBlock=some g->¬S g):GrpIn c sz e w' mb n base G R:=by
 refine⟨h.map.kept k hm,h.none_,fun p hp=>?_,h.apart⟩;obtain⟨g,cap,h1,h2,h3⟩:=h.some_ p hp;exact⟨g,cap,h1,owns_kept h2 k (fun g' hg=>hS p g' _ h1 hg),h3⟩
theorem GrpIn.below (h:GrpIn c sz e w mb n base G R)(k:Below w.heap.size w w'):GrpIn c sz e w' mb n base G R:=h.kept (below_kept (S:=fun _=>False) k (zr _)) (fun h=>h) (fun _ _ _ _ _ h=>h)
theorem GrpIn.mono {n':Nat}(h:GrpIn c sz e w mb n base G R)(hn:n<=n'):GrpIn c sz e w mb n' base G R:=⟨h.map.mono hn,h.none_,h.some_,h.apart⟩
theorem GrpIn.live (h:GrpIn c sz e w mb n base G R){p:ByteArray}{v:Value}{g:Nat}(hp:G p=some v)(hg:v.ownBlock=some g):base<=g/\g<w.heap.size/\g≠mb:=by
 by_cases hr:R p = []
 ·rw[h.none_ p hr]at hp;cases hp
 ·obtain⟨g',cap',e1,e2,e3⟩:=h.some_ p hr;rw[e1]at hp;cases hp;cases hg;exact⟨(e2.lt _ rfl).1,(e2.lt _ rfl).2,e3⟩
theorem GrpIn.row (h:GrpIn c sz e w mb n base G R)(p:ByteArray):∃A cap,(G p).getD (.slice none 0 0) = .slice A (R p).length cap/\w.ownsRow base e sz (.slice A (R p).length cap) (R p).length ((R p).flatMap c)/\(∀g,(Value.slice A (R p).length cap).ownBlock=some g->g≠mb/\G p=some (.slice A (R p).length cap)):=by
 by_cases hp:R p = []
 ·rw[h.none_ p hp,hp];exact⟨none,0,rfl,own_nil _ _ _ _,fun g hg=>by cases hg⟩
 ·obtain⟨g,cap,h1,h2,h3⟩:=h.some_ p hp;exact⟨_,cap,by rw[h1];rfl,h2,fun g' hg=>by cases hg;exact⟨h3,h1⟩⟩
theorem GrpIn.more {p:ByteArray}{x:α}{A A':Option Addr}{N cap c':Nat}(h:GrpIn c sz e w mb n base G R)(hN:(R p).length=N)
  (hold:∀g,(Value.slice A N cap).ownBlock=some g->g≠mb/\G p=some (.slice A N cap))
  (hm:MapIs Tryz.prog 9 okSl w' mb (n+1) (upd (mapG G) (.string p.data.toList) (.slice A' (N+1) c'))) (hk:Kept (fun q=>q=mb\/(Value.slice A N cap).ownBlock=some q) w w')
  (ho:w'.ownsRow base e sz (.slice A' (N+1) c') (N+1) ((R p).flatMap c++c x)) (hv:(Value.slice A' (N+1) c').ownBlock=(Value.slice A N cap).ownBlock\/∃g,(Value.slice A' (N+1) c').ownBlock=some g/\w.heap.size<=g)
  (hR:R' p=R p++[x]) (hR2:∀q,q≠p->R' q=R q):GrpIn c sz e w' mb (n+1) base (updG G p (.slice A' (N+1) c')) R':=by
 obtain⟨gn,cn,hform,_,hlt⟩:=ho.form (Nat.succ_pos _);have hgn:(Value.slice A' (N+1) c').ownBlock=some gn:=by rw[hform];rfl
 have hmlt:=h.map.lt;have hlive:∀q v g,G q=some v->v.ownBlock=some g->g<w.heap.size:=by
  intro q v g hq hg;by_cases hr:R q = []
  ·rw[h.none_ q hr]at hq;cases hq
  ·obtain⟨g',cap',e1,e2,_⟩:=h.some_ q hr;rw[e1]at hq;cases hq;exact (e2.lt _ hg).2
 have hne:gn≠mb:=by
  rcases hv with hv|⟨g,hv,hg⟩
  ·rw[hgn]at hv;exact (hold gn hv.symm).1
  ·rw[hgn]at hv;cases hv;omega
 have hoth:∀q v g,q≠p->G q=some v->v.ownBlock=some g->¬(g=mb\/(Value.slice A N cap).ownBlock=some g)/\g≠gn:=by
  intro q v g hq hGq hg;by_cases hr:R q = []
  ·rw[h.none_ q hr]at hGq;cases hGq
  ·obtain⟨g',cap',e1,e2,e3⟩:=h.some_ q hr;have e4:=e1;rw[hGq]at e4;cases e4;cases hg;refine⟨fun hh=>?_,fun hh=>?_⟩
   ·rcases hh with hh|hh
    ·exact e3 hh
    ·exact h.apart q p _ _ hq hGq (hold _ hh).2 (by rw[hh];rfl)
   ·rcases hv with hv|⟨g2,hv,hg2⟩
    ·rw[hgn]at hv;exact h.apart q p _ _ hq hGq (hold _ hv.symm).2 (by rw[<-hv,<-hh];rfl)
    ·rw[hgn]at hv;cases hv;have:=(e2.lt _ rfl).2;omega
 refine⟨hm.congr (mapG_upd G p _),fun q hq=>?_,fun q hq=>?_,?_⟩
 ·by_cases e1:q=p
  ·subst e1;rw[hR]at hq;simp at hq
  ·rw[hR2 q e1]at hq;unfold updG;rw[if_neg e1];exact h.none_ q hq
 ·by_cases e1:q=p
  ·subst e1;refine⟨gn,cn,?_,?_,hne⟩
   ·unfold updG;rw[if_pos rfl,hR,List.length_append,hN,hform]
    rfl
   ·rw[hR,List.length_append,hN,List.flatMap_append];have:[x].flatMap c=c x:=by simp
    rw[this];rw[hform]at ho;exact ho
  ·rw[hR2 q e1]at hq ⊢;obtain⟨g',cap',e2,e3,e4⟩:=h.some_ q hq;refine⟨g',cap',by unfold updG;rw[if_neg e1];exact e2,owns_kept e3 hk (fun g2 hg2=>by cases hg2;exact (hoth q _ g' e1 e2 rfl).1),e4⟩
 ·intro q q' v v' hqq hq hq';unfold updG at hq hq';by_cases e1:q=p
  ·rw[if_pos e1]at hq;rw[if_neg (fun e2=>hqq (e1.trans e2.symm))]at hq';cases hq;rw[hgn];intro hh;exact (hoth q' v' gn (fun e2=>hqq (e1.trans e2.symm)) hq' hh.symm).2 rfl
  ·rw[if_neg e1]at hq;by_cases e2:q'=p
   ·rw[if_pos e2]at hq';cases hq';rw[hgn];intro hh;exact (hoth q v gn e1 hq hh).2 rfl
   ·rw[if_neg e2]at hq';exact h.apart q q' v v' hqq hq hq'
theorem GrpIn.made (w:World)(base:Nat):GrpIn c sz e (w.alloc (.map #[] 0)) w.heap.size 0 base (fun _=>none) (fun _=>([]:List α)):=
 ⟨(MapIs.made w Tryz.prog 9 okSl).congr (fun kl=>by cases kl <;> rfl),fun _ _=>rfl,fun _ h=>absurd rfl h,fun _ _ _ _ _ h=>by cases h⟩
end
end Go.Proofs.YtnpfaajhgghpgaaGreatDoor

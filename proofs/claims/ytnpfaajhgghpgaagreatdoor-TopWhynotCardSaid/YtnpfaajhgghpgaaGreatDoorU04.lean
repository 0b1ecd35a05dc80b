/- A part of the joined base. -/
import Derived.Test.YtnpfaajhgghpgaaGreatDoorU03
import Derived.Carry
import Derived.Sort.Walk0
set_option linter.unusedVariables false
set_option maxHeartbeats 8000000
set_option maxRecDepth 100000
namespace Go.Proofs.YtnpfaajhgghpgaaGreatDoor
open Go.Shelf Go.RowKit Go.Maps
def ltN (a b:ByteArray):Prop:=a.data.toList<b.data.toList
theorem ltN_irr (a:ByteArray):¬ltN a a:=List.lt_irrefl _
theorem ltN_trans {a b c:ByteArray}(h:ltN a b)(k:ltN b c):ltN a c:=List.lt_trans h k
theorem ba_eq {a b:ByteArray}(h:a.data.toList=b.data.toList):a=b:=by
 cases a;cases b;exact congrArg _ (Array.toList_inj.1 h)
theorem ltN_of {a b:ByteArray}(h:¬ltN a b)(hne:a≠b):ltN b a:=by
 rcases List.le_total b.data.toList a.data.toList with h1|h1
 ·exact Std.lt_of_le_of_ne h1 (fun e=>hne (ba_eq e.symm))
 ·exact absurd (Std.lt_of_le_of_ne h1 (fun e=>hne (ba_eq e))) h
theorem less_iff (a b:ByteArray):Op.bytesLess a.toList b.toList=true↔ltN a b:=by
 rw[bytesLess_eq,decide_eq_true_iff,Lib.toList_data,Lib.toList_data];exact Iff.rfl
def IsNames (f:ByteArray->Bool)(ks:List ByteArray):Prop:=ks.Pairwise ltN/\∀n,n∈ks↔f n=true
theorem Zbw (a b:ByteArray):(a.toList == b.toList)=true↔a=b:=by
 rw[beq_iff_eq,Lib.toList_data,Lib.toList_data]
 constructor
 ·intro h;exact ba_eq h
 ·rintro rfl;rfl
def memB (x:ByteArray)(l:List ByteArray):Bool:=l.any fun y=>decide (y=x)
theorem Zbb (x:ByteArray)(l:List ByteArray):memB x l=true↔x∈l:=by
 unfold memB;rw[List.any_eq_true]
 constructor
 ·rintro ⟨y,hy,h⟩;obtain rfl:=of_decide_eq_true h;exact hy
 ·intro h;exact⟨x,h,by simp⟩
def evArr (e:Ev):Array Value:=#[.string e.src,.int .i64 e.num,.int .i64 e.tick,.int .i64 e.kind,.string e.person,.string e.item,.int .i64 e.value,.string e.text]
theorem own_nil (w:World)(base e size:Nat):w.ownsRow base e size (.slice none 0 0) 0 []:=⟨by simp,Or.inl ⟨rfl,rfl⟩⟩
theorem info_parts {P:Program}{e:TypeId}{z:Value}{n b:Nat}(h:(P.info? e).map (fun i=>(i.zero,i.size,i.bytes))=some (some z,n,b)):∃i,P.info? e=some i/\i.zero=some z/\i.size=n/\i.bytes=b:=by
 cases hq:P.info? e with
 | none=>simp[hq]at h
 | some i=>simp[hq]at h;exact⟨i,rfl,h.1,h.2.1,h.2.2⟩
theorem own_shape {w:World}{base n:Nat}{e:TypeId}{size:Nat}{v:Value}{xs:List Value}(h:w.ownsRow base e size v n xs):∃A c,v = .slice A n c:=by
 rcases h.2 with ⟨rfl,rfl⟩|⟨g,cap,cur,rfl,_⟩
 ·exact⟨_,_,rfl⟩
 ·exact⟨_,_,rfl⟩
def okSl:Value->Bool
 | .slice _ _ _=>true
 | _=>false
def mapG (G:ByteArray->Option Value):Lit->Option Value
 | .string l=>G ⟨l.toArray⟩
 | _=>none
theorem mapG_at (G:ByteArray->Option Value)(n:ByteArray):mapG G (.string n.data.toList)=G n:=by simp[mapG]
def updG (G:ByteArray->Option Value)(n:ByteArray)(v:Value):ByteArray->Option Value:=fun x=>if x=n then some v else G x
theorem ba_list (l:List UInt8):(⟨l.toArray⟩:ByteArray).data.toList=l:=by simp
theorem str_same (a b:ByteArray):(Lit.string a.data.toList).sameKey (.string b.data.toList)=decide (a=b):=by
 by_cases h:a=b
 ·subst h;rw[WideAt.sameKey_self (by trivial)];simp
 ·rw[sameKey_ne (fun e=>h (by
   injection e with e;cases a;cases b;exact congrArg _ (Array.toList_inj.1 e)))]
  simp[h]
theorem mapG_upd (G:ByteArray->Option Value)(n:ByteArray)(v:Value):∀kl,upd (mapG G) (.string n.data.toList) v kl=mapG (updG G n v) kl:=by
 intro kl;cases kl with
 | string l=>
  have:=str_same ⟨l.toArray⟩ n;rw[ba_list]at this;unfold upd;rw[this];by_cases h:(⟨l.toArray⟩:ByteArray)=n <;> simp[mapG,updG,h]
 | _=>
  unfold upd;rw[sameKey_ne (by intro h;cases h)]
  rfl
theorem owns_kept {w w':World}{base e size n:Nat}{v:Value}{xs:List Value}{S:Nat->Prop}(h:w.ownsRow base e size v n xs)(k:Kept S w w')(hS:∀g,v.ownBlock=some g->¬S g):w'.ownsRow base e size v n xs:=by
 rcases hv:v.ownBlock with _|g
 ·refine⟨h.1,?_⟩;rcases h.2 with h1|⟨g,cap,cur,h1,h2⟩
  ·exact Or.inl h1
  ·subst h1;cases hv
 ·have hlt:=(h.lt _ hv).2;refine⟨h.1,?_⟩;rcases h.2 with h1|⟨g',cap,cur,h1,h2,h3,h4⟩
  ·exact Or.inl h1
  ·subst h1;cases hv;exact Or.inr ⟨g',cap,cur,rfl,h2,(k.block _ hlt (hS _ rfl)).trans h3,h4⟩
theorem below_kept {w w':World}{B:Nat}{S:Nat->Prop}(hb:Below B w w')(hB:w.heap.size<=B):Kept S w w':=⟨hb.os,hb.tape,hb.output,hb.size,fun i hi _=>hb.block i (by omega)⟩
theorem Zjy:(Tryz.prog.info? 9).map (fun i=>(i.zero,i.size,i.bytes))=some (some (.string ⟨#[]⟩),1,16):=by kernel_rfl
theorem Zit (w:World)(z:ByteArray)(t:TypeId):RowIn (w.alloc (.cells #[.string z] t)) (w.heap.size+1) 1 (some ⟨w.heap.size,0,none⟩) 1 [.string z]:=by
 refine⟨rfl,Or.inr ⟨w.heap.size,0,rfl,by omega,fun j u hu=>?_⟩⟩;rw[(Blk.new w t _).cell];rw[<-hu,Nat.zero_add];simp
theorem Zhl (w:World)(e:TypeId)(size:Nat):(w.alloc (.cells #[] e)).ownsRow w.heap.size e size (.slice (some ⟨w.heap.size,0,none⟩) 0 0) 0 []:=
 ⟨by simp,Or.inr ⟨w.heap.size,0,#[],rfl,zr _,heap_alloc_new w _,zr _,Nat.zero_le _,by simp,by simp⟩⟩
theorem Zgj {w:World}{base base' e size n:Nat}{v:Value}{xs:List Value}(h:w.ownsRow base e size v n xs)(hb:base'<=base):w.ownsRow base' e size v n xs:=by
 refine⟨h.1,h.2.elim Or.inl fun ⟨g,cap,cur,h1,h2,h3⟩=>Or.inr ⟨g,cap,cur,h1,by omega,h3⟩⟩
theorem below_drew {B:Nat}{w w':World}(h:Below B w w'):Below B w w'.drew:=⟨h.os,h.tape,h.output,h.size,h.block⟩
def Apart (a b:Value):Prop:=∀g,a.ownBlock=some g->b.ownBlock≠some g
theorem Zbd {α:Type}{l:List α}{k:Nat}{x:α}(h:l[k]? = some x):l.take (k+1)=l.take k++[x]:=by rw[List.take_add_one,h];rfl
theorem Zld {w:World}{base e size n c:Nat}{g:Nat}{xs:List Value}(h:w.ownsRow base e size (.slice (some ⟨g,0,none⟩) n c) n xs):∀j,w.frozen? ⟨g,j,none⟩=false:=by
 intro j;rcases h.2 with ⟨h,_⟩|⟨g',cap',cur,h,_,hh,_⟩
 ·cases h
 ·injection h with h;injection h with h;injection h with h;subst h;simp[World.frozen?,hh]
theorem Zov:(Tryz.prog.info? 3).map (fun i=>(i.zero,i.size,i.bytes))=some (some (.int .i64 0),1,8):=by kernel_rfl
theorem Zrv (w:World)(z:Int)(t:TypeId):RowIn (w.alloc (.cells #[.int .i64 z] t)) (w.heap.size+1) 1 (some ⟨w.heap.size,0,none⟩) 1 [.int .i64 z]:=by
 refine⟨rfl,Or.inr ⟨w.heap.size,0,rfl,by omega,fun j u hu=>?_⟩⟩;rw[(Blk.new w t _).cell];rw[<-hu,Nat.zero_add];simp
def EvBd (e:Ev):Prop:=e.src.size<=281474976710656/\e.person.size<=281474976710656/\e.item.size<=281474976710656/\e.text.size<=281474976710656
theorem Zhm (w:World)(x:Ev)(t:TypeId):RowIn (w.alloc (.cells #[.string x.src,.int .i64 x.num,.int .i64 x.tick,.int .i64 x.kind,.string x.person,.string x.item,.int .i64 x.value,.string x.text] t)) (w.heap.size+1) 8 (some ⟨w.heap.size,0,none⟩) 1 (evC x):=by
 refine⟨rfl,Or.inr ⟨w.heap.size,0,rfl,by omega,fun j u hu=>?_⟩⟩;rw[(Blk.new w t _).cell];rw[<-hu,Nat.zero_add];simp[evC]
def EvArg (w:World)(A:Option Addr)(n c:Nat)(l:List Ev):Prop:=l.length=n/\EvsAt w w.heap.size A l/\n<=140737488355328/\(A=none->c=0)/\∀e∈l,EvBd e
theorem Zgk {w w':World}{B:Nat}{A:Option Addr}{l:List Ev}{S:Nat->Prop}(h:EvsAt w B A l)(k:Kept S w w')(hB:B<=w.heap.size)(hA:∀ad,A=some ad->¬S ad.block):EvsAt w' B A l:=by
 refine⟨h.1,h.2.elim Or.inl fun hx=>Or.inr ?_⟩;obtain⟨b,off,e,hb,hc⟩:=hx;exact⟨b,off,e,hb,fun j u hu=>(k.cell (p:=⟨b,off+j,none⟩) (by show b<_;omega) (hA ⟨b,off,none⟩ e)).trans (hc j u hu)⟩
end Go.Proofs.YtnpfaajhgghpgaaGreatDoor
namespace Go.Proofs.YtnpfaajhgghpgaaGreatDoor
structure Rw where
 e:Ev
 ts:List ByteArray
def tagStep (acc:List ByteArray)(t:ByteArray):List ByteArray:=if nameB t && !memB t acc then acc++[t] else acc
def tagsP (l:List ByteArray):List ByteArray:=l.foldl tagStep []
theorem Zd5 (l:List ByteArray)(t:ByteArray):tagsP (l++[t])=tagStep (tagsP l) t:=by unfold tagsP;rw[List.foldl_append];rfl
theorem snocInd' {α:Type}{p:List α->Prop}(l:List α)(nil:p [])(snoc:∀l a,p l->p (l++[a])):p l:=by
 have:∀n (l:List α),l.length=n->p l:=by
  intro n
  induction n with
  | zero=>intro l h;rw[List.eq_nil_of_length_eq_zero h];exact nil
  | succ n ih=>
   intro l h;have hne:l≠[]:=by intro e;rw[e]at h;cases h
   have:=List.dropLast_concat_getLast hne;rw[<-this];exact snoc _ _ (ih _ (by rw[List.length_dropLast,h];rfl))
 exact this _ l rfl
theorem Zow (l:List ByteArray):(tagsP l).Nodup/\∀t,t∈tagsP l↔t∈l/\nameB t=true:=by
 refine snocInd' (p:=fun l=>(tagsP l).Nodup/\∀t,t∈tagsP l↔t∈l/\nameB t=true) l ⟨List.nodup_nil,fun t=>by simp[tagsP]⟩ (fun l a ih=>?_);rw[Zd5];unfold tagStep;cases hn:nameB a
 ·refine⟨ih.1,fun t=>?_⟩;show t∈tagsP l↔_;rw[ih.2,List.mem_append,List.mem_singleton]
  constructor
  ·rintro ⟨h1,h2⟩;exact⟨Or.inl h1,h2⟩
  ·rintro ⟨h1|h1,h2⟩
   ·exact⟨h1,h2⟩
   ·subst h1;rw[hn]at h2;cases h2
 ·cases hm:memB a (tagsP l)
  ·have hna:a ∉ tagsP l:=fun h=>by rw[(Zbb _ _).2 h]at hm;cases hm
   refine⟨?_,fun t=>?_⟩
   ·show (tagsP l++[a]).Nodup;rw[List.nodup_append];exact⟨ih.1,by simp,fun x hx y hy e=>by simp at hy;subst hy;subst e;exact hna hx⟩
   ·show t∈tagsP l++[a]↔_;rw[List.mem_append,List.mem_singleton,ih.2,List.mem_append,List.mem_singleton]
    constructor
    ·rintro (⟨h1,h2⟩|rfl)
     ·exact⟨Or.inl h1,h2⟩
     ·exact⟨Or.inr rfl,hn⟩
    ·rintro ⟨h1|h1,h2⟩
     ·exact Or.inl ⟨h1,h2⟩
     ·exact Or.inr h1
  ·have hma:=(Zbb _ _).1 hm;refine⟨ih.1,fun t=>?_⟩;show t∈tagsP l↔_;rw[ih.2,List.mem_append,List.mem_singleton]
   constructor
   ·rintro ⟨h1,h2⟩;exact⟨Or.inl h1,h2⟩
   ·rintro ⟨h1|h1,h2⟩
    ·exact⟨h1,h2⟩
    ·subst h1;exact (ih.2 t).1 hma
theorem Zhn (l:List ByteArray):(tagsP l).length<=l.length:=by
 refine snocInd' (p:=fun l=>(tagsP l).length<=l.length) l (zr _) (fun l a ih=>?_);rw[Zd5,List.length_append];unfold tagStep;split
 ·simp;omega
 ·simp;omega
def crB (e:Ev):Bool:=mayB e&&decide (e.kind<11)
def lastE (rs:List Rw):Option Ev:=rs.getLast?.map (·.e)
def takesC (rs:List Rw)(e:Ev):Bool:=crB e&&(match lastE rs with|none=>true|some l=>decide (cmpE e l=1))
def aftC (rs:List Rw)(r:Rw):List Rw:=if takesC rs r.e then rs++[⟨r.e,tagsP r.ts⟩] else rs
def ownC (rs:List Rw)(p:ByteArray):List Rw:=rs.filter fun r=>decide (r.e.person=p)
theorem Zmj (rs:List Rw)(r:Rw)(p:ByteArray):ownC (rs++[r]) p=if r.e.person=p then ownC rs p++[r] else ownC rs p:=by
 unfold ownC;rw[List.filter_append];by_cases h:r.e.person=p <;> simp[h]
theorem Zjz (rs:List Rw)(p:ByteArray):(ownC rs p).length<=rs.length:=List.length_filter_le _ _
theorem Zj0 {rs:List Rw}{p:ByteArray}{r:Rw}:r∈ownC rs p↔r∈rs/\r.e.person=p:=by
 unfold ownC;rw[List.mem_filter,decide_eq_true_eq]
def isR (p i:ByteArray)(r:Rw):Bool:=decide (r.e.person=p/\r.e.item=i)
def doneB (rs:List Rw)(p i:ByteArray):Bool:=rs.any fun r=>isR p i r&&decide (r.e.kind=2\/r.e.kind=3)
theorem Zft (rs:List Rw)(r:Rw)(p i:ByteArray):doneB (rs++[r]) p i=(doneB rs p i || (isR p i r&&decide (r.e.kind=2\/r.e.kind=3))):=by
 unfold doneB;rw[List.any_append];simp
def shownN (rs:List Rw)(p i:ByteArray):Nat:=rs.countP fun r=>isR p i r&&decide (r.e.kind=0)
theorem Ze7 (rs:List Rw)(r:Rw)(p i:ByteArray):shownN (rs++[r]) p i=shownN rs p i+if (isR p i r&&decide (r.e.kind=0))=true then 1 else 0:=by
 unfold shownN;rw[List.countP_append];simp[List.countP_cons]
theorem Zmk (rs:List Rw)(p i:ByteArray):shownN rs p i<=rs.length:=List.countP_le_length
def wordO (f:Rw->Bool)(a b:Int)(rs:List Rw):Option Bool:=rs.foldl (fun acc r=>if f r&&decide (r.e.kind=a\/r.e.kind=b) then some (decide (r.e.kind=a)) else acc) none
theorem Zb7 (f:Rw->Bool)(a b:Int)(rs:List Rw)(r:Rw):wordO f a b (rs++[r])=if f r&&decide (r.e.kind=a\/r.e.kind=b) then some (decide (r.e.kind=a)) else wordO f a b rs:=by
 unfold wordO;rw[List.foldl_append];rfl
def hidO (rs:List Rw)(p i:ByteArray):Option Bool:=wordO (isR p i) 5 6 rs
def isT (p t:ByteArray)(r:Rw):Bool:=decide (r.e.person=p/\r.e.text=t)
def folO (rs:List Rw)(p t:ByteArray):Option Bool:=wordO (isT p t) 7 8 rs
def mutO (rs:List Rw)(p t:ByteArray):Option Bool:=wordO (isT p t) 9 10 rs
def worthP (e:Ev):Int:=if e.kind=1 then 1 else if e.kind=2 then 3 else if e.kind=3 then 5 else if e.kind=4 then e.value else 0
def likB (rs:List Rw)(p i:ByteArray):Bool:=rs.any fun r=>isR p i r&&decide (0<worthP r.e)
theorem Zb8 (rs:List Rw)(r:Rw)(p i:ByteArray):likB (rs++[r]) p i=(likB rs p i || (isR p i r&&decide (0<worthP r.e))):=by
 unfold likB;rw[List.any_append];simp
def fanStep (i:ByteArray)(acc:List ByteArray)(r:Rw):List ByteArray:=if decide (r.e.item=i/\0<worthP r.e) && !memB r.e.person acc then acc++[r.e.person] else acc
def fanL (rs:List Rw)(i:ByteArray):List ByteArray:=rs.foldl (fanStep i) []
theorem Ze8 (rs:List Rw)(r:Rw)(i:ByteArray):fanL (rs++[r]) i=fanStep i (fanL rs i) r:=by unfold fanL;rw[List.foldl_append];rfl
theorem Zml (rs:List Rw)(i:ByteArray):(fanL rs i).Nodup/\∀p,p∈fanL rs i↔likB rs p i=true:=by
 refine snocInd' (p:=fun rs=>(fanL rs i).Nodup/\∀p,p∈fanL rs i↔likB rs p i=true) rs ⟨List.nodup_nil,fun p=>by simp[fanL,likB]⟩ (fun rs r ih=>?_);rw[Ze8];unfold fanStep;by_cases h1:r.e.item=i/\0<worthP r.e
 ·cases hm:memB r.e.person (fanL rs i)
  ·have hna:r.e.person ∉ fanL rs i:=fun h=>by rw[(Zbb _ _).2 h]at hm;cases hm
   rw[decide_eq_true h1];refine⟨?_,fun p=>?_⟩
   ·show (fanL rs i++[r.e.person]).Nodup;rw[List.nodup_append];exact⟨ih.1,by simp,fun x hx y hy e=>by simp at hy;subst hy;subst e;exact hna hx⟩
   ·show p∈fanL rs i++[r.e.person]↔_;rw[List.mem_append,List.mem_singleton,ih.2,Zb8,Bool.or_eq_true,Bool.and_eq_true];unfold isR;simp only[decide_eq_true_eq]
    constructor
    ·rintro (h|rfl)
     ·exact Or.inl h
     ·exact Or.inr ⟨⟨rfl,h1.1⟩,h1.2⟩
    ·rintro (h|h)
     ·exact Or.inl h
     ·exact Or.inr h.1.1.symm
  ·have hma:=(Zbb _ _).1 hm;rw[decide_eq_true h1];refine⟨ih.1,fun p=>?_⟩;show p∈fanL rs i↔_;rw[ih.2,Zb8,Bool.or_eq_true,Bool.and_eq_true];unfold isR;simp only[decide_eq_true_eq]
   constructor
   ·exact Or.inl
   ·rintro (h|h)
    ·exact h
    ·rw[<-h.1.1];exact (ih.2 _).1 hma
 ·rw[decide_eq_false h1];refine⟨ih.1,fun p=>?_⟩;show p∈fanL rs i↔_;rw[ih.2,Zb8,Bool.or_eq_true,Bool.and_eq_true];unfold isR;simp only[decide_eq_true_eq]
  constructor
  ·exact Or.inl
  ·rintro (h|h)
   ·exact h
   ·exact absurd ⟨h.1.2,h.2⟩ h1
def fansN (rs:List Rw)(i:ByteArray):Nat:=(fanL rs i).length
theorem Zrw (rs:List Rw)(i:ByteArray):(fanL rs i).length<=rs.length:=by
 refine snocInd' (p:=fun rs=>(fanL rs i).length<=rs.length) rs (zr _) (fun rs r ih=>?_);rw[Ze8,List.length_append];unfold fanStep;split
 ·simp;omega
 ·simp;omega
theorem Zd6 (rs:List Rw)(r:Rw)(i:ByteArray):fansN (rs++[r]) i=fansN rs i+if r.e.item=i/\0<worthP r.e/\likB rs r.e.person i=false then 1 else 0:=by
 unfold fansN;rw[Ze8];unfold fanStep;have hm:memB r.e.person (fanL rs i)=likB rs r.e.person i:=by
  rw[Bool.eq_iff_iff,Zbb,(Zml rs i).2]
 rw[hm];by_cases h1:r.e.item=i/\0<worthP r.e
 ·rw[decide_eq_true h1];cases hl:likB rs r.e.person i
  ·rw[if_pos (show r.e.item=i/\0<worthP r.e/\false=false from ⟨h1.1,h1.2,rfl⟩)];simp
  ·rw[if_neg (show ¬(r.e.item=i/\0<worthP r.e/\true=false) from fun h=>by cases h.2.2)];simp
 ·rw[decide_eq_false h1,if_neg (show ¬(r.e.item=i/\0<worthP r.e/\likB rs r.e.person i=false) from fun h=>h1 ⟨h.1,h.2.1⟩)];simp
end Go.Proofs.YtnpfaajhgghpgaaGreatDoor
namespace Go.Proofs.YtnpfaajhgghpgaaGreatDoor.Ct
structure It where
 name:ByteArray
 maker:ByteArray
 tags:ByteArray
 stock:Int
 price:Int
 born:Int
 listed:Bool
structure St where
 tick:Int
 isborn:Bool
 item:It
def it0:It:=⟨⟨#[]⟩,⟨#[]⟩,⟨#[]⟩,0,0,0,false⟩
def st0 (n:ByteArray):St:=⟨0,false,⟨n,⟨#[]⟩,⟨#[]⟩,0,0,0,false⟩⟩
def stepSt (s:St)(e:Ev):St:=
 if e.kind=11 then ⟨e.tick,true,⟨s.item.name,headP e.text,restP e.text,s.item.stock,e.value,if s.isborn then s.item.born else e.tick,true⟩⟩
 else if e.kind=12 then ⟨e.tick,s.isborn,⟨s.item.name,s.item.maker,s.item.tags,e.value,s.item.price,s.item.born,s.item.listed⟩⟩
 else ⟨e.tick,s.isborn,⟨s.item.name,s.item.maker,s.item.tags,s.item.stock,s.item.price,s.item.born,false⟩⟩
theorem Ze9 (s:St)(e:Ev):(stepSt s e).tick=e.tick:=by unfold stepSt;split;rfl;split <;> rfl
def rowStep (row:List St)(e:Ev):List St:=row++[stepSt (row.getLast?.getD (st0 e.item)) e]
def ofN (es:List Ev)(n:ByteArray):List Ev:=es.filter fun e=>decide (e.item=n)
def rowOf (es:List Ev)(n:ByteArray):List St:=(ofN es n).foldl rowStep []
theorem Zox (es:List Ev)(e:Ev)(n:ByteArray):ofN (es++[e]) n=if e.item=n then ofN es n++[e] else ofN es n:=by
 unfold ofN;rw[List.filter_append];by_cases h:e.item=n
 ·rw[if_pos h];simp[h]
 ·rw[if_neg h];simp[h]
theorem Zc3 (es:List Ev)(e:Ev)(n:ByteArray):rowOf (es++[e]) n=if e.item=n then rowStep (rowOf es n) e else rowOf es n:=by
 unfold rowOf;rw[Zox];split
 ·rw[List.foldl_append];rfl
 ·rfl
theorem Zmm (l:List Ev):∀r:List St,(l.foldl rowStep r).map (·.tick)=r.map (·.tick)++l.map (·.tick):=by
 induction l with
 | nil=>intro r;simp
 | cons e l ih=>
  intro r;rw[List.foldl_cons,ih];simp[rowStep,Ze9]
theorem Zck (es:List Ev)(n:ByteArray):(rowOf es n).map (·.tick)=(ofN es n).map (·.tick):=by
 have:=Zmm (ofN es n) [];simpa [rowOf] using this
theorem Zmn (es:List Ev)(n:ByteArray):(rowOf es n).length=(ofN es n).length:=by
 have:=congrArg List.length (Zck es n);simpa using this
theorem Zj1 (es:List Ev)(n:ByteArray):(rowOf es n).length<=es.length:=by
 rw[Zmn];exact List.length_filter_le _ _
def catB (e:Ev):Bool:=mayB e&&decide (e.kind=11\/e.kind=12\/e.kind=13)
def takesB (es:List Ev)(e:Ev):Bool:=catB e&&(match es.getLast? with|none=>true|some l=>decide (cmpE e l=1))
def Rising (es:List Ev):Prop:=es.Pairwise fun a b=>a.tick<=b.tick
theorem Zmo {x y:Ev}(h:cmpE x y=1):y.tick<=x.tick:=by
 unfold cmpE at h;simp only[orL]at h;unfold cmpI at h;split at h <;> first|omega|(split at h <;> first|omega|(split at h <;> omega))
theorem Rising.snoc {es:List Ev}(h:Rising es){e:Ev}(ht:takesB es e=true):Rising (es++[e]):=by
 unfold Rising;rw[List.pairwise_append];refine⟨h,List.pairwise_singleton _ _,?_⟩;intro a ha b hb;obtain rfl:b=e:=by simpa using hb
 unfold takesB at ht;rw[Bool.and_eq_true]at ht;obtain⟨_,h2⟩:=ht;cases hl:es.getLast? with
 | none=>rw[List.getLast?_eq_none_iff]at hl;subst hl;cases ha
 | some l=>
  rw[hl]at h2;have h3:=Zmo (of_decide_eq_true h2);obtain⟨ys,rfl⟩:=List.getLast?_eq_some_iff.1 hl;rcases List.mem_append.1 ha with h4|h4
  ·have:=(List.pairwise_append.1 h).2.2 a h4 l (by simp);omega
  ·obtain rfl:a=l:=by simpa using h4
   exact h3
theorem Rising.row {es:List Ev}(h:Rising es)(n:ByteArray):(rowOf es n).Pairwise fun a b=>a.tick<=b.tick:=by
 have h1:(ofN es n).Pairwise fun a b=>a.tick<=b.tick:=List.Pairwise.sublist List.filter_sublist h;have h2:((ofN es n).map (·.tick)).Pairwise (·<=·):=List.pairwise_map.2 h1;rw[<-Zck]at h2;exact List.pairwise_map.1 h2
def uptoP (r:List St)(t:Int):List St:=r.takeWhile fun s=>decide (s.tick<=t)
def atP (es:List Ev)(n:ByteArray)(t:Int):Option It:=(uptoP (rowOf es n) t).getLast?.map (·.item)
theorem Zrx {r:List St}{t:Int}{k:Nat}(hk:k<=r.length)(h1:∀j s,j<k->r[j]? = some s->s.tick<=t)(h2:∀s,r[k]? = some s->t<s.tick):uptoP r t=r.take k:=by
 induction r generalizing k with
 | nil=>simp[uptoP]
 | cons s r ih=>
  rcases k with _|k
  ·have:=h2 s rfl;simp only[uptoP,List.take_zero];rw[List.takeWhile_cons_of_neg];simpa using this
  ·have h3:=h1 0 s (by omega) rfl;simp only[uptoP];rw[List.takeWhile_cons_of_pos (by simpa using h3)];have:=ih (k:=k) (by simpa using hk) (fun j s hj hs=>h1 (j+1) s (by omega) (by simpa using hs)) (fun s hs=>h2 s (by simpa using hs));rw[List.take_succ_cons,<-this]
   rfl
end Go.Proofs.YtnpfaajhgghpgaaGreatDoor.Ct
namespace Go.Proofs.YtnpfaajhgghpgaaGreatDoor
open Ct (It St atP takesB catB)
def isCat (e:Ev):Bool:=decide (e.kind=11\/e.kind=12\/e.kind=13)
def thgs (es:List Ev):List Ev:=es.filter isCat
theorem Zfa (es:List Ev)(e:Ev):thgs (es++[e])=if isCat e then thgs es++[e] else thgs es:=by
 unfold thgs;rw[List.filter_append];cases h:isCat e <;> simp[h]
theorem Zax {es:List Ev}{e:Ev}:e∈thgs es↔e∈es/\isCat e=true:=by unfold thgs;rw[List.mem_filter]
def tagsOf (es:List Ev)(e:Ev):List ByteArray:=match atP (thgs es) e.item e.tick with|none=>[]|some it=>evTags ((⟨#[59]⟩:ByteArray)++it.tags)
def rwStep (es:List Ev)(e:Ev)(rs:List Rw):List Rw:=if e.kind<11 then rs++[⟨e,tagsP (tagsOf es e)⟩] else rs
def rowsR:List Ev->List Rw
 | []=>[]
 | e::r=>rwStep r.reverse e (rowsR r)
def rowsW (es:List Ev):List Rw:=rowsR es.reverse
theorem Zb9 (es:List Ev)(e:Ev):rowsW (es++[e])=rwStep es e (rowsW es):=by
 unfold rowsW;rw[List.reverse_append];show rwStep (es.reverse).reverse e (rowsR es.reverse)=_;rw[List.reverse_reverse]
theorem snocI {α:Type}{p:List α->Prop}(nil:p [])(snoc:∀l a,p l->p (l++[a]))(l:List α):p l:=by
 have h:∀(n:Nat) (l:List α),l.length=n->p l:=by
  intro n
  induction n with
  | zero=>intro l hl;rw[List.eq_nil_of_length_eq_zero hl];exact nil
  | succ n ih=>
   intro l hl;have hne:l≠[]:=fun e=>by rw[e]at hl;cases hl
   rw[<-List.dropLast_concat_getLast hne];exact snoc _ _ (ih _ (by simp[hl]))
 exact h _ l rfl
theorem Zcr {es:List Ev}:∀{r:Rw},r∈rowsW es->r.e∈es/\r.e.kind<11:=by
 refine snocI (p:=fun es=>∀{r:Rw},r∈rowsW es->r.e∈es/\r.e.kind<11) (fun h=>by cases h) (fun l a ih r h=>?_) es;rw[Zb9]at h;unfold rwStep at h;split at h
 ·rename_i hk
  rcases List.mem_append.1 h with h|h
  ·exact⟨List.mem_append_left _ (ih h).1,(ih h).2⟩
  ·obtain rfl:r=⟨a,tagsP (tagsOf l a)⟩:=by simpa using h
   exact⟨by simp,hk⟩
 ·exact⟨List.mem_append_left _ (ih h).1,(ih h).2⟩
theorem Zcs (es:List Ev):(rowsW es).length<=es.length:=by
 refine snocI (p:=fun es=>(rowsW es).length<=es.length) (zr _) (fun l a ih=>?_) es;rw[Zb9];unfold rwStep;split <;> simp <;> omega
theorem Zdo (es:List Ev):(thgs es).length<=es.length:=List.length_filter_le _ _
def NextE (es:List Ev)(e:Ev):Prop:=∀a∈es,cmpE a e = -1
theorem SortedE.next {es:List Ev}{e:Ev}(h:SortedE (es++[e])):SortedE es/\NextE es e:=by
 have:=List.pairwise_append.1 h;exact⟨this.1,fun a ha=>this.2.2 a ha e (by simp)⟩
theorem NextE.flip {es:List Ev}{e a:Ev}(h:NextE es e)(ha:a∈es):cmpE e a=1:=by
 have h1:=h a ha;have h2:=Zgh e a;omega
theorem Zmp {es:List Ev}{e:Ev}(h:NextE es e)(hm:mayB e=true)(hc:isCat e=true):takesB (thgs es) e=true:=by
 unfold takesB;rw[Bool.and_eq_true];refine⟨by unfold catB;rw[Bool.and_eq_true];exact⟨hm,hc⟩,?_⟩;cases hl:(thgs es).getLast? with
 | none=>rfl
 | some l=>exact decide_eq_true (h.flip (Zax.1 (List.mem_of_getLast? hl)).1)
theorem Ziu {es:List Ev}{e:Ev}(h:NextE es e)(hm:mayB e=true)(hk:e.kind<11):takesC (rowsW es) e=true:=by
 unfold takesC;rw[Bool.and_eq_true];refine⟨by unfold crB;rw[Bool.and_eq_true];exact⟨hm,decide_eq_true hk⟩,?_⟩;cases hl:lastE (rowsW es) with
 | none=>rfl
 | some l=>
  unfold lastE at hl;obtain⟨r,hr,rfl⟩:=Option.map_eq_some_iff.1 hl;exact decide_eq_true (h.flip (Zcr (List.mem_of_getLast? hr)).1)
def betB (fm:Ev->ByteArray)(e old:Ev):Bool:=decide (cmpE e old<0) || (decide (cmpE e old=0)&&ltB (fm e) (fm old))
def lstV (fm:Ev->ByteArray)(o:Option Ev)(e:Ev):Ev:=match o with|none=>e|some old=>if betB fm e old then e else old
def lstStep (fm:Ev->ByteArray)(G:ByteArray->Int->Option Ev)(e:Ev):ByteArray->Int->Option Ev:=fun s n=>if s=e.src/\n=e.num then some (lstV fm (G e.src e.num) e) else G s n
def lstG (fm:Ev->ByteArray)(l:List Ev):ByteArray->Int->Option Ev:=l.foldl (lstStep fm) (fun _ _=>none)
theorem Zca (fm:Ev->ByteArray)(l:List Ev)(e:Ev):lstG fm (l++[e])=lstStep fm (lstG fm l) e:=by unfold lstG;rw[List.foldl_append];rfl
theorem Zfu (fm:Ev->ByteArray)(o:Option Ev)(e:Ev):lstV fm o e=e\/o=some (lstV fm o e):=by
 unfold lstV;cases o with
 | none=>exact Or.inl rfl
 | some old=>
  show (if betB fm e old then e else old)=e\/some old=some (if betB fm e old then e else old);split
  ·exact Or.inl rfl
  ·exact Or.inr rfl
theorem Zbp {fm:Ev->ByteArray}{l:List Ev}:∀{s:ByteArray} {n:Int} {e:Ev},lstG fm l s n=some e->e∈l/\e.src=s/\e.num=n:=by
 refine snocI (p:=fun l=>∀{s:ByteArray} {n:Int} {e:Ev},lstG fm l s n=some e->e∈l/\e.src=s/\e.num=n) (fun h=>by cases h) (fun l a ih s n e h=>?_) l;rw[Zca]at h;unfold lstStep at h;split at h
 ·rename_i hk
  injection h with h;rcases Zfu fm (lstG fm l a.src a.num) a with e1|e1
  ·rw[e1]at h;subst h;exact⟨by simp,hk.1.symm,hk.2.symm⟩
  ·rw[h]at e1;obtain⟨h1,h2,h3⟩:=ih e1;exact⟨List.mem_append_left _ h1,by rw[h2,hk.1],by rw[h3,hk.2]⟩
 ·obtain⟨h1,h2,h3⟩:=ih h;exact⟨List.mem_append_left _ h1,h2,h3⟩
theorem Zj2 {fm:Ev->ByteArray}{l:List Ev}:OneIds l->∀{e:Ev},e∈l->lstG fm l e.src e.num=some e:=by
 refine snocI (p:=fun l=>OneIds l->∀{e:Ev},e∈l->lstG fm l e.src e.num=some e) (fun _ _ h=>by cases h) (fun l a ih ho e h=>?_) l;have hp:=List.pairwise_append.1 ho;rw[Zca];unfold lstStep;rcases List.mem_append.1 h with h|h
 ·rw[if_neg (fun hk:e.src=a.src/\e.num=a.num=>hp.2.2 e h a (by simp) hk)];exact ih hp.1 h
 ·obtain rfl:e=a:=by simpa using h
  rw[if_pos ⟨rfl,rfl⟩];rcases Zfu fm (lstG fm l e.src e.num) e with e1|e1
  ·rw[e1]
  ·obtain⟨h1,h2,h3⟩:=Zbp e1;exact absurd ⟨h2,h3⟩ (hp.2.2 _ h1 e (by simp))
def goneP (fm:Ev->ByteArray)(l:List Ev)(p:ByteArray):Prop:=∃e,lstG fm l e.src e.num=some e/\e.kind=14/\e.person=p
structure AnewIs (fm:Ev->ByteArray) (l E:List Ev):Prop where
 sorted:SortedE E
 mem:∀e,e∈E↔lstG fm l e.src e.num=some e/\(e.kind=14\/¬goneP fm l e.person)
theorem AnewIs.sub {fm:Ev->ByteArray}{l E:List Ev}(h:AnewIs fm l E){e:Ev}(he:e∈E):e∈l:=(Zbp ((h.mem e).1 he).1).1
end Go.Proofs.YtnpfaajhgghpgaaGreatDoor

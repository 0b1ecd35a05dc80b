/- A part of the joined base. -/
import Derived.Test.YtnpfaajhgghpgaaGreatDoorU30
set_option linter.unusedVariables false
set_option maxHeartbeats 8000000
set_option maxRecDepth 100000
namespace Go.Proofs.YtnpfaajhgghpgaaGreatDoor
open Ct (It St it0 st0 atP takesB catB stepSt rowOf uptoP ofN rowStep)
theorem Zbq {fm:Ev->ByteArray}{es cs E:List Ev}(hc:Closed es)(h:OnTop es cs)(hE:AnewIs fm (es++cs) E):∀e,e∈E↔e∈es\/e∈cs:=fun e=>by
 have ho:=h.one hc;have hl:∀f,lstG fm (es++cs) f.src f.num=some f↔f∈es++cs:=fun f=>⟨fun hf=>(Zbp hf).1,fun hf=>Zj2 ho hf⟩
 have hg:∀p,goneP fm (es++cs) p↔∃f∈es,f.kind=14/\f.person=p:=fun p=>by
  constructor
  ·rintro ⟨f,h1,h2,h3⟩;rcases List.mem_append.1 ((hl f).1 h1) with h4|h4
   ·exact⟨f,h4,h2,h3⟩
   ·exact absurd h2 (h.kind f h4)
  ·rintro ⟨f,h1,h2,h3⟩;exact⟨f,(hl f).2 (List.mem_append_left _ h1),h2,h3⟩
 rw[hE.mem,hl,List.mem_append,hg]
 constructor
 ·exact fun h=>h.1
 ·intro he;refine⟨he,?_⟩;rcases he with he|he
  ·exact hc.stay e he
  ·exact Or.inr (h.here e he)
theorem Zie {fm:Ev->ByteArray}{es cs E:List Ev}(hc:Closed es)(h:OnTop es cs)(hE:AnewIs fm (es++cs) E)(hs:SortedE (es++cs)):E=es++cs:=
 Za3 hE.sorted hs (fun e=>by rw[Zbq hc h hE,List.mem_append])
def upE (es:List Ev)(t:Int):List Ev:=es.filter fun e=>decide (e.tick<=t)
def dnE (es:List Ev)(t:Int):List Ev:=es.filter fun e=>decide (t<e.tick)
theorem Zn5 {a b:Ev}(h:cmpE a b = -1):a.tick<=b.tick:=by
 rw[Zba]at h;by_cases hz:cmpI a.tick b.tick=0
 ·have:=Ze6 hz;omega
 ·rw[if_neg hz]at h;have:=cI_lt.1 h;omega
theorem up_dn {es:List Ev}(h:SortedE es)(t:Int):upE es t++dnE es t=es:=by
 induction es with
 | nil=>rfl
 | cons a l ih=>
  have hp:=List.pairwise_cons.1 h;by_cases ha:a.tick<=t
  ·have e1:upE (a::l) t=a::upE l t:=List.filter_cons_of_pos (decide_eq_true ha);have e2:dnE (a::l) t=dnE l t:=List.filter_cons_of_neg (by simp;omega);rw[e1,e2,List.cons_append,ih hp.2]
  ·have hall:∀b∈l,t<b.tick:=fun b hb=>by have:=Zn5 (hp.1 b hb);omega
   have e1:upE (a::l) t = []:=List.filter_eq_nil_iff.2 (fun b hb=>by
    rcases List.mem_cons.1 hb with rfl|hb
    ·simpa using ha
    ·have:=hall b hb;simp;omega)
   have e2:dnE (a::l) t=a::l:=List.filter_eq_self.2 (fun b hb=>by
    rcases List.mem_cons.1 hb with rfl|hb
    ·simp;omega
    ·exact decide_eq_true (hall b hb))
   rw[e1,e2]
   rfl
theorem Zqs {fm:Ev->ByteArray}{es E:List Ev}{c:Ev}(hc:Closed es)(h:OnTop es [c])(hE:AnewIs fm (es++[c]) E)(hz:∀e∈es,e.tick<=c.tick->cmpE e c = -1):E=upE es c.tick++[c]++dnE es c.tick:=by
 refine Za3 hE.sorted ?_ (fun e=>?_)
 ·have hs:=hc.sorted;rw[<-up_dn hs c.tick]at hs;have hp:=List.pairwise_append.1 hs;refine List.pairwise_append.2 ⟨List.pairwise_append.2 ⟨hp.1,List.pairwise_singleton _ _,fun a ha b hb=>?_⟩,hp.2.1,fun a ha b hb=>?_⟩
  ·obtain rfl:b=c:=by simpa using hb
   have:=List.mem_filter.1 ha;exact hz a this.1 (of_decide_eq_true this.2)
  ·rcases List.mem_append.1 ha with ha|ha
   ·exact hp.2.2 a ha b hb
   ·obtain rfl:a=c:=by simpa using ha
    have hb2:=of_decide_eq_true (List.mem_filter.1 hb).2;rw[Zba];have h1:cmpI a.tick b.tick = -1:=cI_lt.2 hb2;rw[if_neg (by omega)];exact h1
 ·rw[Zbq hc h hE,List.mem_append,List.mem_append];unfold upE dnE;rw[List.mem_filter,List.mem_filter,decide_eq_true_eq,decide_eq_true_eq]
  constructor
  ·rintro (h1|h1)
   ·by_cases ht:e.tick<=c.tick
    ·exact Or.inl (Or.inl ⟨h1,ht⟩)
    ·exact Or.inr ⟨h1,by omega⟩
   ·exact Or.inl (Or.inr h1)
  ·rintro ((h1|h1)|h1)
   ·exact Or.inl h1.1
   ·exact Or.inr h1
   ·exact Or.inl h1.1
theorem Zqt (l:List Ev):∀r:List St,∃m,l.foldl rowStep r=r++m/\m.map (·.tick)=l.map (·.tick):=by
 induction l with
 | nil=>exact fun r=>⟨[],by simp,rfl⟩
 | cons e l ih=>
  intro r;obtain⟨m,h1,h2⟩:=ih (rowStep r e);refine⟨stepSt (r.getLast?.getD (st0 e.item)) e::m,?_,?_⟩
  ·rw[List.foldl_cons,h1];unfold rowStep;simp
  ·simp[h2,Ct.Ze9]
theorem Zkx {A B:List Ev}{n:ByteArray}{t:Int}(hA:∀e∈A,e.tick<=t)(hB:∀e∈B,t<e.tick):atP (A++B) n t=(rowOf A n).getLast?.map (·.item):=by
 have hu:uptoP (rowOf (A++B) n) t=rowOf A n:=by
  have h1:rowOf (A++B) n=(ofN B n).foldl rowStep (rowOf A n):=by
   unfold rowOf ofN;rw[List.filter_append,List.foldl_append]
  obtain⟨m,h2,h3⟩:=Zqt (ofN B n) (rowOf A n);rw[h1,h2]
  have hr:∀s∈rowOf A n,s.tick<=t:=fun s hs=>by
   have h4:s.tick∈(rowOf A n).map (·.tick):=List.mem_map_of_mem hs;rw[Ct.Zck]at h4;obtain⟨e,he,h5⟩:=List.mem_map.1 h4;rw[<-h5];exact hA e (List.mem_filter.1 he).1
  have hm:∀s∈m,t<s.tick:=fun s hs=>by
   have h4:s.tick∈m.map (·.tick):=List.mem_map_of_mem hs;rw[h3]at h4;obtain⟨e,he,h5⟩:=List.mem_map.1 h4;rw[<-h5];exact hB e (List.mem_filter.1 he).1
  unfold uptoP;rw[List.takeWhile_append_of_pos (fun s hs=>decide_eq_true (hr s hs))];cases m with
  | nil=>simp
  | cons s m=>
   rw[List.takeWhile_cons_of_neg (by have:=hm s (List.mem_cons_self ..);simp;omega)];simp
 unfold atP;rw[hu]
theorem Zhb (a b:List Ev):thgs (a++b)=thgs a++thgs b:=List.filter_append ..
theorem at_up {es:List Ev}(h:SortedE es)(n:ByteArray)(t:Int):atP (thgs es) n t=(rowOf (thgs (upE es t)) n).getLast?.map (·.item):=by
 have h1:thgs es=thgs (upE es t)++thgs (dnE es t):=by rw[<-Zhb,up_dn h]
 rw[h1];exact Zkx (fun e he=>of_decide_eq_true (List.mem_filter.1 (Zax.1 he).1).2) (fun e he=>of_decide_eq_true (List.mem_filter.1 (Zax.1 he).1).2)
theorem Zty {es:List Ev}{c:Ev}(hk:isCat c=true){t:Int}(ht:c.tick=t):∃s:St,(atP (thgs (upE es t++[c]++dnE es t)) c.item t=some (stepSt s c).item)/\(SortedE es->s.item=((atP (thgs es) c.item t).getD (st0 c.item).item)):=by
 refine⟨(rowOf (thgs (upE es t)) c.item).getLast?.getD (st0 c.item),?_,fun hs=>?_⟩
 ·rw[Zhb,Zkx (A:=thgs (upE es t++[c])) (B:=thgs (dnE es t)) (n:=c.item) (t:=t) (fun e he=>?_) (fun e he=>of_decide_eq_true (List.mem_filter.1 (Zax.1 he).1).2)]
  ·rw[Zfa,if_pos hk,Ct.Zc3,if_pos rfl];unfold rowStep;simp
  ·rcases List.mem_append.1 (Zax.1 he).1 with h1|h1
   ·exact of_decide_eq_true (List.mem_filter.1 h1).2
   ·obtain rfl:e=c:=by simpa using h1
    omega
 ·rw[at_up hs];cases (rowOf (thgs (upE es t)) c.item).getLast? <;> rfl
theorem Zhc (a b:List Ev):crE (a++b)=crE a++crE b:=List.filter_append ..
theorem Zs4 {es:List Ev}{c:Ev}(hs:SortedE es)(hk:isCat c=true)(t:Int):crE (upE es t++[c]++dnE es t)=crE es:=by
 have h1:crE [c] = []:=by
  unfold crE;rw[List.filter_eq_nil_iff];intro e he;obtain rfl:e=c:=by simpa using he
  have:=of_decide_eq_true hk;simp;omega
 rw[Zhc,Zhc,h1,List.append_nil,<-Zhc,up_dn hs]
structure SameCr (es es':List Ev):Prop where
 done:∀p i,doneB (rowsW es') p i=doneB (rowsW es) p i
 hid:∀p i,hidO (rowsW es') p i=hidO (rowsW es) p i
 fol:∀p m,folO (rowsW es') p m=folO (rowsW es) p m
 mut_:∀p m,mutO (rowsW es') p m=mutO (rowsW es) p m
 fans:∀i,fansN (rowsW es') i=fansN (rowsW es) i
def fanE (l:List Ev)(i:ByteArray):List ByteArray:=l.foldl (fun acc e=>if decide (e.item=i/\0<worthP e) && !memB e.person acc then acc++[e.person] else acc) []
theorem Zeh (es:List Ev)(i:ByteArray):fanL (rowsW es) i=fanE (crE es) i:=
 Zh0 (fun acc e=>if decide (e.item=i/\0<worthP e) && !memB e.person acc then acc++[e.person] else acc) [] es
theorem Zdg (es:List Ev)(p i:ByteArray):hidO (rowsW es) p i=wordE (fun e=>decide (e.person=p/\e.item=i)) 5 6 (crE es):=Zgt es (fun e=>decide (e.person=p/\e.item=i)) 5 6
theorem Zn6 (es:List Ev)(p i:ByteArray):folO (rowsW es) p i=wordE (fun e=>decide (e.person=p/\e.text=i)) 7 8 (crE es):=Zgt es (fun e=>decide (e.person=p/\e.text=i)) 7 8
theorem Zdh (es:List Ev)(p i:ByteArray):mutO (rowsW es) p i=wordE (fun e=>decide (e.person=p/\e.text=i)) 9 10 (crE es):=Zgt es (fun e=>decide (e.person=p/\e.text=i)) 9 10
theorem Zs5 {es es':List Ev}(h:crE es'=crE es):SameCr es es':=
 ⟨fun p i=>by rw[Zeu,Zeu,h],fun p i=>by rw[Zdg,Zdg,h],fun p i=>by rw[Zn6,Zn6,h],fun p i=>by rw[Zdh,Zdh,h],fun i=>by unfold fansN;rw[Zeh,Zeh,h]⟩
theorem Zbc (f:Ev->Bool)(a b:Int)(l:List Ev)(e:Ev):wordE f a b (l++[e])=if f e&&decide (e.kind=a\/e.kind=b) then some (decide (e.kind=a)) else wordE f a b l:=by
 unfold wordE;rw[List.foldl_append];rfl
theorem Zif {f:Ev->Bool}{a b:Int}{l cs:List Ev}(h:∀c∈cs,f c=true->¬(c.kind=a\/c.kind=b)):wordE f a b (l++cs)=wordE f a b l:=by
 refine snocI (p:=fun cs=>(∀c∈cs,f c=true->¬(c.kind=a\/c.kind=b))->wordE f a b (l++cs)=wordE f a b l) (fun _=>by rw[List.append_nil]) (fun cs c ih hh=>?_) cs h;rw[<-List.append_assoc,Zbc,if_neg,ih (fun c' hc'=>hh c' (List.mem_append_left _ hc'))];intro hb;rw[Bool.and_eq_true]at hb;exact hh c (by simp) hb.1 (of_decide_eq_true hb.2)
end Go.Proofs.YtnpfaajhgghpgaaGreatDoor
namespace Go.Proofs.YtnpfaajhgghpgaaGreatDoor
open Ct (It St it0 st0 atP takesB catB stepSt rowOf uptoP ofN rowStep)
open Ru (Fz fzX Nd holdsR digW)
def zzS:ByteArray:=⟨#[122,122,122,122,122,122,122,122,122,122,122,122,122,122,122,122,122,122,122,122,122,122,122,122]⟩
theorem Zrn:∀(n:Nat) (a:List UInt8),(∀b∈a,b.toNat<=122)->a.length<=n->Lib.compareBytes a (List.replicate n 122) = -1\/a=List.replicate n 122
 | 0,[],_,_=>Or.inr rfl
 | 0,x::a,_,h=>by simp at h
 | n+1,[],_,_=>Or.inl rfl
 | n+1,x::a,h1,h2=>by
  rw[List.replicate_succ,Zd4];have hx:=h1 x (List.mem_cons_self ..);by_cases hlt:x<122
  ·rw[if_pos hlt];exact Or.inl rfl
  ·have he:x=122:=by
    apply UInt8.toNat_inj.1;have h3:¬x.toNat<(122:UInt8).toNat:=hlt;have h4:(122:UInt8).toNat=122:=rfl;omega
   subst he;rw[if_neg hlt,if_neg hlt];rcases Zrn n a (fun b hb=>h1 b (List.mem_cons_of_mem _ hb)) (by simpa using h2) with h3|h3
   ·exact Or.inl h3
   ·rw[h3];exact Or.inr rfl
theorem Ztz {s:ByteArray}(h:nameB s=true):cmpB s zzS = -1\/s=zzS:=by
 unfold nameB at h;rw[Bool.and_eq_true]at h;have h1:=of_decide_eq_true h.1;have h2:=List.all_eq_true.1 h.2
 rcases Zrn 24 s.data.toList (fun b hb=>by
  have:=of_decide_eq_true (h2 b hb);unfold okN at this
  omega) (by have : s.data.toList.length = s.size := by simp
             omega) with h3|h3
 ·exact Or.inl h3
 ·exact Or.inr (ba_eq h3)
theorem Zhd:nameB zzS=true:=by decide
def grtN (es:List Ev):Int:=es.foldl (fun a e=>if e.src=zzS/\a<e.num then e.num else a) 0
theorem Zfi (es:List Ev)(e:Ev):grtN (es++[e])=if e.src=zzS/\grtN es<e.num then e.num else grtN es:=by unfold grtN;rw[List.foldl_append];rfl
theorem Zdx (es:List Ev)(hm:∀e∈es,mayB e=true):(0<=grtN es/\grtN es<=1099511627776)/\∀e∈es,e.src=zzS->e.num<=grtN es:=by
 refine snocI (p:=fun es=>(∀e∈es,mayB e=true)->(0<=grtN es/\grtN es<=1099511627776)/\∀e∈es,e.src=zzS->e.num<=grtN es) (fun _=>⟨⟨Int.le_refl _,by show (0:Int)<=_;omega⟩,fun _ h=>by cases h⟩) (fun l a ih hm=>?_) es hm;have ih':=ih (fun e he=>hm e (List.mem_append_left _ he));have ha:=(Zas (hm a (by simp))).2.1;rw[Zfi];by_cases hc:a.src=zzS/\grtN l<a.num
 ·rw[if_pos hc];refine⟨⟨by omega,ha.2⟩,fun e he hs=>?_⟩;rcases List.mem_append.1 he with he|he
  ·have:=ih'.2 e he hs;omega
  ·obtain rfl:e=a:=by simpa using he
   omega
 ·rw[if_neg hc];refine⟨ih'.1,fun e he hs=>?_⟩;rcases List.mem_append.1 he with he|he
  ·exact ih'.2 e he hs
  ·obtain rfl:e=a:=by simpa using he
   by_cases h2:grtN l<e.num
   ·exact absurd ⟨hs,h2⟩ hc
   ·omega
def numL (g:Int):Nat->List Ev->List Ev
 | _,[]=>[]
 | k,c::r=>⟨zzS,g+1+k,c.tick,c.kind,c.person,c.item,c.value,c.text⟩::numL g (k+1) r
theorem Zbz (g:Int):∀(cs:List Ev) (k:Nat),(numL g k cs).length=cs.length
 | [],_=>rfl
 | c::r,k=>by simp[numL,Zbz g r (k+1)]
theorem Zdy {g:Int}:∀{cs:List Ev} {k:Nat} {e:Ev},e∈numL g k cs->∃c∈cs,∃j:Nat,k<=j/\j<k+cs.length/\e=⟨zzS,g+1+j,c.tick,c.kind,c.person,c.item,c.value,c.text⟩
 | [],_,_,h=>by cases h
 | c::r,k,e,h=>by
  rcases List.mem_cons.1 h with h|h
  ·exact⟨c,List.mem_cons_self ..,k,zr _,by simp,h⟩
  ·obtain⟨c',h1,j,h2,h3,h4⟩:=Zdy h;exact⟨c',List.mem_cons_of_mem _ h1,j,by omega,by simp;omega,h4⟩
theorem Zky {g:Int}:∀(cs:List Ev) (k:Nat),OneIds (numL g k cs)
 | [],_=>List.Pairwise.nil
 | c::r,k=>by
  refine List.pairwise_cons.2 ⟨fun e he hs=>?_,Zky r (k+1)⟩;obtain⟨c',_,j,h2,_,h4⟩:=Zdy he;have h5:=hs.2;rw[h4]at h5;have h6:g+1+(k:Int)=g+1+(j:Int):=h5;omega
theorem Zig (a:ByteArray):cmpB a a=0:=Zn4 _
theorem Zfj {g t:Int}:∀(cs:List Ev) (k:Nat),(∀c∈cs,c.tick=t)->SortedE (numL g k cs)
 | [],_,_=>List.Pairwise.nil
 | c::r,k,h=>by
  refine List.pairwise_cons.2 ⟨fun e he=>?_,Zfj r (k+1) (fun c' hc'=>h c' (List.mem_cons_of_mem _ hc'))⟩;obtain⟨c',h1,j,h2,_,rfl⟩:=Zdy he;rw[Zba];have e1:cmpI c.tick c'.tick=0:=by rw[h c (List.mem_cons_self ..),h c' (List.mem_cons_of_mem _ h1)];exact Zs2 _
  show (if cmpI c.tick c'.tick=0 then if cmpB zzS zzS=0 then cmpI (g+1+k) (g+1+j) else cmpB zzS zzS else cmpI c.tick c'.tick) = -1;rw[if_pos e1,if_pos (Zig _)];exact cI_lt.2 (by omega)
def cured (es cs:List Ev):List Ev:=if 1099511627776<grtN es+cs.length then [] else numL (grtN es) 0 cs
theorem Zbl {es cs:List Ev}{e:Ev}(h:e∈cured es cs):∃c∈cs,∃n:Int,grtN es<n/\n<=1099511627776/\e=⟨zzS,n,c.tick,c.kind,c.person,c.item,c.value,c.text⟩:=by
 unfold cured at h;split at h
 ·cases h
 ·obtain⟨c,h1,j,h2,h3,h4⟩:=Zdy h;exact⟨c,h1,_,by omega,by omega,h4⟩
theorem Zn7 (es cs:List Ev):OneIds (cured es cs):=by
 unfold cured;split
 ·exact List.Pairwise.nil
 ·exact Zky _ _
theorem Zbo (es:List Ev):cured es [] = []:=by unfold cured;split <;> rfl
theorem Zn9 {es:List Ev}(hm:∀e∈es,mayB e=true){c:Ev}(hs:c.src=zzS)(hn:grtN es<c.num):∀e∈es,e.tick<=c.tick->cmpE e c = -1:=fun e he ht=>by
 rw[Zba];by_cases h1:cmpI e.tick c.tick=0
 ·rw[if_pos h1,hs];rcases Ztz (Zas (hm e he)).1 with h2|h2
  ·rw[if_neg (by omega)];exact h2
  ·rw[h2,if_pos (Zig _)];have:=(Zdx es hm).2 e he h2;exact cI_lt.2 (by omega)
 ·rw[if_neg h1];rcases Zdm e.tick c.tick with h2|h2|h2
  ·exact h2
  ·exact absurd h2 h1
  ·exfalso;have h3:=Zir e.tick c.tick;have h4:=cI_lt.1 (show cmpI c.tick e.tick = -1 by omega);omega
theorem Zt0 {es cs:List Ev}(hm:∀e∈es,mayB e=true):∀e∈es,∀c∈cured es cs,¬sameId e c:=fun e he c hc hs=>by
 obtain⟨c',_,n,h1,_,rfl⟩:=Zbl hc;have h2:=(Zdx es hm).2 e he hs.1;have h3:e.num=n:=hs.2;omega
theorem Zt1 {es cs:List Ev}(hm:∀e∈es,mayB e=true)(hk:∀c∈cs,c.kind≠14)(hh:∀c∈cs,¬∃f∈es,f.kind=14/\f.person=c.person):OnTop es (cured es cs):=by
 refine⟨Zn7 es cs,Zt0 hm,fun c hc=>?_,fun c hc=>?_⟩
 ·obtain⟨c',h1,n,_,_,rfl⟩:=Zbl hc;exact hk c' h1
 ·obtain⟨c',h1,n,_,_,rfl⟩:=Zbl hc;exact hh c' h1
def lateP (es:List Ev)(now:Int):Int:=es.foldl (fun a e=>if a<e.tick then e.tick else a) now
theorem Zl3 (es:List Ev)(e:Ev)(now:Int):lateP (es++[e]) now=if lateP es now<e.tick then e.tick else lateP es now:=by unfold lateP;rw[List.foldl_append];rfl
theorem Zhe (es:List Ev)(now:Int):now<=lateP es now/\(∀e∈es,e.tick<=lateP es now)/\(lateP es now=now\/∃e∈es,lateP es now=e.tick):=by
 refine snocI (p:=fun es=>now<=lateP es now/\(∀e∈es,e.tick<=lateP es now)/\(lateP es now=now\/∃e∈es,lateP es now=e.tick)) ⟨Int.le_refl _,fun _ h=>(by cases h),Or.inl rfl⟩ (fun l a ih=>?_) es;rw[Zl3];by_cases h:lateP l now<a.tick
 ·rw[if_pos h];refine⟨by omega,fun e he=>?_,Or.inr ⟨a,by simp,rfl⟩⟩;rcases List.mem_append.1 he with he|he
  ·have:=ih.2.1 e he;omega
  ·obtain rfl:e=a:=by simpa using he
   exact Int.le_refl _
 ·rw[if_neg h];refine⟨ih.1,fun e he=>?_,ih.2.2.imp id (fun ⟨e,he,h2⟩=>⟨e,List.mem_append_left _ he,h2⟩)⟩;rcases List.mem_append.1 he with he|he
  ·exact ih.2.1 e he
  ·obtain rfl:e=a:=by simpa using he
   omega
theorem Zkz {fm:Ev->ByteArray}{es cs E:List Ev}{now:Int}(hc:Closed es)(hm:∀e∈es,mayB e=true)(ht:∀c∈cs,c.tick=lateP es now)(h:OnTop es (cured es cs))(hE:AnewIs fm (es++cured es cs) E):E=es++cured es cs:=by
 refine Zie hc h hE (List.pairwise_append.2 ⟨hc.sorted,?_,fun a ha b hb=>?_⟩)
 ·unfold cured;split
  ·exact List.Pairwise.nil
  ·exact Zfj cs 0 ht
 ·obtain⟨c',h1,n,h2,_,rfl⟩:=Zbl hb;refine Zn9 hm rfl h2 a ha ?_;show a.tick<=c'.tick;rw[ht c' h1];exact (Zhe es now).2.1 a ha
theorem why1 {z:Fz}{hid:Bool}{crowd span:Int}{ok:Bool}(h:z.listed=true):whyP z hid crowd span ok=0\/1<whyP z hid crowd span ok:=by
 unfold whyP;rw[if_neg (by simp[h])]
 repeat (first|omega|split)
theorem why2 {z:Fz}{hid:Bool}{crowd span:Int}{ok:Bool}(h:z.listed=true)(h2:z.stock≠0):whyP z hid crowd span ok=0\/2<whyP z hid crowd span ok:=by
 unfold whyP;rw[if_neg (by simp[h]),if_neg h2]
 repeat (first|omega|split)
theorem why3 {z:Fz}{hid:Bool}{crowd span:Int}{ok:Bool}(h:z.listed=true)(h2:z.stock≠0)(h3:hid=false):whyP z hid crowd span ok=0\/3<whyP z hid crowd span ok:=by
 unfold whyP;rw[if_neg (by simp[h]),if_neg h2,if_neg (by simp[h3])]
 repeat (first|omega|split)
theorem why5 {z:Fz}{hid:Bool}{crowd span:Int}{ok:Bool}(h:z.listed=true)(h2:z.stock≠0)(h3:hid=false)(h4:z.done=false)(h5:¬z.fans<crowd):whyP z hid crowd span ok=0\/5<whyP z hid crowd span ok:=by
 unfold whyP;rw[if_neg (by simp[h]),if_neg h2,if_neg (by simp[h3]),if_neg (by simp[h4]),if_neg (fun h=>h5 h.1)]
 repeat (first|omega|split)
theorem Zcf {z:Fz}{hid:Bool}{crowd span:Int}{ok:Bool}:(whyP z hid crowd span ok=1↔z.listed=false)/\(1<whyP z hid crowd span ok->z.listed=true)/\(whyP z hid crowd span ok=2->z.stock=0)/\(2<whyP z hid crowd span ok->z.stock≠0)/\(whyP z hid crowd span ok=3->hid=true)/\(3<whyP z hid crowd span ok->hid=false)/\(4<whyP z hid crowd span ok->z.done=false)/\(whyP z hid crowd span ok=5->z.fans<crowd/\span<z.age)/\(whyP z hid crowd span ok=4->z.done=true)/\(whyP z hid crowd span ok=6->ok=false):=by
 unfold whyP;cases z.listed <;> cases hid <;> cases z.done <;> by_cases h2:z.stock=0 <;> by_cases h5:z.fans<crowd/\span<z.age <;> cases ok <;> simp[h2,h5]
end Go.Proofs.YtnpfaajhgghpgaaGreatDoor
namespace Go.Proofs.YtnpfaajhgghpgaaGreatDoor
open Ct (It St it0 st0 atP takesB catB stepSt rowOf uptoP ofN rowStep)
open Ru (Fz fzX Nd holdsR digW Zd8 Zak)
def noneT:ByteArray:=⟨#[110,111,110,101,59]⟩
def mkrP (es:List Ev)(i:ByteArray)(now:Int):ByteArray:=((atP (thgs es) i now).getD it0).maker
def listE (es:List Ev)(i:ByteArray)(now:Int):Ev:=if mkrP es i now=⟨#[]⟩ then ⟨⟨#[]⟩,0,now,11,⟨#[]⟩,i,0,noneT⟩ else ⟨⟨#[]⟩,0,now,11,⟨#[]⟩,i,((atP (thgs es) i now).getD it0).price,mkrP es i now++⟨#[59]⟩++((atP (thgs es) i now).getD it0).tags⟩
theorem Zdz (es:List Ev)(i:ByteArray)(now:Int):(listE es i now).kind=11/\(listE es i now).tick=now/\(listE es i now).item=i/\(listE es i now).person=⟨#[]⟩:=by unfold listE;split <;> exact⟨rfl,rfl,rfl,rfl⟩
def stockE (i:ByteArray)(now:Int):Ev:=⟨⟨#[]⟩,0,now,12,⟨#[]⟩,i,1,⟨#[]⟩⟩
def unhideL (es:List Ev)(p i:ByteArray)(now:Int):List Ev:=
 (if (hidO (rowsW es) p i).getD false then [⟨⟨#[]⟩,0,lateP es now,6,p,i,0,⟨#[]⟩⟩] else [])++(if mutO (rowsW es) p (mkrP es i now)=some true then [⟨⟨#[]⟩,0,lateP es now,10,p,⟨#[]⟩,0,mkrP es i now⟩] else [])
def nS (k:Nat):ByteArray:=⟨#[110,45]⟩++digW k
theorem Zro {k k':Nat}(h:nS k=nS k'):k=k':=by
 have h2:(nS k).data.toList=(nS k').data.toList:=by rw[h]
 unfold nS at h2;rw[Ru.Za6,Ru.Za6,Zak,Zak]at h2;exact Zd8 (List.append_cancel_left h2)
def knownB (es:List Ev)(s:ByteArray):Bool:=es.any fun e=>decide (e.person=s)
def newN (es:List Ev)(n:Nat):List Nat:=((List.range' 1 (es.length+n)).filter fun k=>!knownB es (nS k)).take n
def openE (es:List Ev)(i:ByteArray)(now:Int)(k:Nat):Ev:=⟨⟨#[]⟩,0,lateP es now,1,nS k,i,0,⟨#[]⟩⟩
def openL (es:List Ev)(i:ByteArray)(now crowd:Int):List Ev:=if 1000<crowd - fansN (rowsW es) i then [] else (newN es (crowd - fansN (rowsW es) i).toNat).map (openE es i now)
def cureL (es:List Ev)(y:Nat)(p i:ByteArray)(now crowd:Int):List Ev:=if y=1 then [listE es i now] else if y=2 then [stockE i now] else if y=3 then unhideL es p i now else if y=5 then openL es i now crowd else []
def cureP (es:List Ev)(y:Nat)(p i:ByteArray)(now crowd:Int):List Ev:=cured es (cureL es y p i now crowd)
inductive ChainP (fm:Ev->ByteArray) (p i:ByteArray) (now crowd span:Int) (r:Option (Option Nd)):List Ev->List (Nat×List Ev)->List Ev->Prop
 | stop {es:List Ev} (h:whyW es p i now crowd span r=0):ChainP fm p i now crowd span r es [] es
 | none {es:List Ev} {y:Nat} (h:whyW es p i now crowd span r=y) (h0:y≠0) (hc:cureP es y p i now crowd = []):ChainP fm p i now crowd span r es [(y,[])] es
 | more {es cs E E':List Ev} {l:List (Nat×List Ev)} {y:Nat} (h:whyW es p i now crowd span r=y) (h0:y≠0) (hc:cureP es y p i now crowd=cs) (hne:cs≠[]) (hE:AnewIs fm (es++cs) E) (ht:ChainP fm p i now crowd span r E l E'):ChainP fm p i now crowd span r es ((y,cs)::l) E'
theorem Zcg {es:List Ev}{p i:ByteArray}{now:Int}{c:Ev}(h:c∈unhideL es p i now):c.person=p/\c.tick=lateP es now/\((c.kind=6/\(hidO (rowsW es) p i).getD false=true/\c.item=i/\c.text=⟨#[]⟩)\/(c.kind=10/\mutO (rowsW es) p (mkrP es i now)=some true/\c.item=⟨#[]⟩/\c.text=mkrP es i now))/\c.value=0:=by
 unfold unhideL at h;rcases List.mem_append.1 h with h|h
 ·split at h
  ·rename_i hh
   obtain rfl:=List.mem_singleton.1 h;exact⟨rfl,rfl,Or.inl ⟨rfl,hh,rfl,rfl⟩,rfl⟩
  ·cases h
 ·split at h
  ·rename_i hh
   obtain rfl:=List.mem_singleton.1 h;exact⟨rfl,rfl,Or.inr ⟨rfl,hh,rfl,rfl⟩,rfl⟩
  ·cases h
theorem Zei {es:List Ev}{i:ByteArray}{now crowd:Int}{c:Ev}(h:c∈openL es i now crowd):∃k,c=openE es i now k/\knownB es (nS k)=false/\1<=k/\k<=es.length+1000:=by
 unfold openL at h;split at h
 ·cases h
 ·rename_i hn
  obtain⟨k,hk,rfl⟩:=List.mem_map.1 h;unfold newN at hk;have h1:=List.mem_filter.1 ((List.take_sublist _ _).subset hk);have h2:=List.mem_range'_1.1 h1.1;exact⟨k,rfl,by simpa using h1.2,h2.1,by omega⟩
theorem Zk0 {es:List Ev}(hc:Closed es){e:Ev}(he:e∈es)(hk:e.kind≠14):¬∃f∈es,f.kind=14/\f.person=e.person:=(hc.stay e he).resolve_left hk
theorem Zqu {e:Ev}(h:mayB e=true)(hk:e.kind=14):e.person≠⟨#[]⟩:=by
 have h1:=(Zas h).2.2.2;unfold kindB at h1;rw[hk]at h1;simp at h1;intro hp;rw[hp]at h1;exact absurd h1.1 (by decide)
theorem Zih {es:List Ev}{y:Nat}{p i:ByteArray}{now crowd:Int}(hc:Closed es)(hm:∀e∈es,mayB e=true):∀c∈cureL es y p i now crowd,c.kind≠14/\¬∃f∈es,f.kind=14/\f.person=c.person:=by
 intro c h;have hempty:c.person=⟨#[]⟩->¬∃f∈es,f.kind=14/\f.person=c.person:=fun he ⟨f,hf,hk,hp⟩=>Zqu (hm f hf) hk (by rw[hp,he]);unfold cureL at h;split at h
 ·obtain rfl:=List.mem_singleton.1 h;have:=Zdz es i now;exact⟨by omega,hempty this.2.2.2⟩
 split at h
 ·obtain rfl:=List.mem_singleton.1 h;exact⟨by show (12:Int)≠14;omega,hempty rfl⟩
 split at h
 ·obtain⟨h1,h2,h3,_⟩:=Zcg h;rw[h1];rcases h3 with ⟨hk,hh,_⟩|⟨hk,hh,_⟩
  ·have hs:hidO (rowsW es) p i=some true:=by
    cases ho:hidO (rowsW es) p i with
    | none=>rw[ho]at hh;cases hh
    | some b=>rw[ho]at hh;exact congrArg some hh
   obtain⟨r,hr,hr1,hr2⟩:=Zcu hs;have hr3:=of_decide_eq_true hr1;have:=Zk0 hc (Zcr hr).1 (by omega);rw[hr3.1]at this;exact⟨by omega,this⟩
  ·obtain⟨r,hr,hr1,hr2⟩:=Zcu hh;have hr3:=of_decide_eq_true hr1;have:=Zk0 hc (Zcr hr).1 (by omega);rw[hr3.1]at this;exact⟨by omega,this⟩
 split at h
 ·obtain⟨k,rfl,hk,_⟩:=Zei h;refine⟨by show (1:Int)≠14;omega,fun ⟨f,hf,_,hp⟩=>?_⟩;have:knownB es (nS k)=true:=List.any_eq_true.2 ⟨f,hf,decide_eq_true hp⟩;rw[hk]at this;cases this
 ·cases h
theorem Zb0 {es:List Ev}{y:Nat}{p i:ByteArray}{now crowd:Int}(hc:Closed es)(hm:∀e∈es,mayB e=true):OnTop es (cureP es y p i now crowd):=
 Zt1 hm (fun c h=>(Zih hc hm c h).1) (fun c h=>(Zih hc hm c h).2)
theorem Zoa {es cs:List Ev}(h:∀c∈cs,c.kind<11):thgs (es++cs)=thgs es:=by
 rw[Zhb];have:thgs cs = []:=by
  unfold thgs;rw[List.filter_eq_nil_iff];intro c hc;have:=h c hc;unfold isCat;simp;omega
 rw[this,List.append_nil]
theorem Ze0 {es cs:List Ev}(h:∀c∈cs,c.kind<11):crE (es++cs)=crE es++cs:=by
 rw[Zhc];have:crE cs=cs:=List.filter_eq_self.2 (fun c hc=>decide_eq_true (h c hc));rw[this]
theorem Zs6 {l:List Ev}{i:ByteArray}(cs:List Ev):(∀c∈cs,c.item=i/\0<worthP c/\c.person ∉ fanE l i)->(cs.map (·.person)).Nodup->fanE (l++cs) i=fanE l i++cs.map (·.person):=by
 refine snocI (p:=fun cs=>(∀c∈cs,c.item=i/\0<worthP c/\c.person ∉ fanE l i)->(cs.map (·.person)).Nodup->fanE (l++cs) i=fanE l i++cs.map (·.person)) (fun _ _=>by simp) (fun cs c ih h hn=>?_) cs;rw[List.map_append,List.nodup_append]at hn;have ih':=ih (fun c' hc'=>h c' (List.mem_append_left _ hc')) hn.1;have hc:=h c (by simp);have hs:fanE (l++cs++[c]) i=if decide (c.item=i/\0<worthP c) && !memB c.person (fanE (l++cs) i) then fanE (l++cs) i++[c.person] else fanE (l++cs) i:=by
  unfold fanE;rw[List.foldl_append]
  rfl
 rw[<-List.append_assoc,hs,ih',if_pos,List.map_append,List.append_assoc]
 ·rfl
 ·rw[Bool.and_eq_true];refine⟨decide_eq_true ⟨hc.1,hc.2.1⟩,?_⟩;have:memB c.person (fanE l i++cs.map (·.person))=false:=by
   rw[Bool.eq_false_iff];intro hm;rcases List.mem_append.1 ((Zbb _ _).1 hm) with h1|h1
   ·exact hc.2.2 h1
   ·exact hn.2.2 _ h1 _ (by simp) rfl
  rw[this]
  rfl
theorem Zhf {fm:Ev->ByteArray}{es E:List Ev}{c:Ev}{p i:ByteArray}{now:Int}(hc:Closed es)(hm:∀e∈es,mayB e=true)(h:OnTop es [c])(hE:AnewIs fm (es++[c]) E)(hs:c.src=zzS)(hn:grtN es<c.num)(hk:isCat c=true)(ht:c.tick=now)(hi:c.item=i) :
  ∃s:St,atP (thgs E) i now=some (stepSt s c).item/\s.item=(atP (thgs es) i now).getD (st0 i).item/\SameCr es E:=by
 have hz:=Zn9 hm hs hn;have hEE:=Zqs hc h hE hz;obtain⟨s,h1,h2⟩:=Zty (es:=es) hk (t:=now) ht;subst ht;subst hi;exact⟨s,by rw[hEE];exact h1,h2 hc.sorted,Zs5 (by rw[hEE];exact Zs4 hc.sorted hk _)⟩
theorem Zfk {es:List Ev}{c:Ev}(h:cured es [c]≠[]):∃n,grtN es<n/\n<=1099511627776/\cured es [c] = [⟨zzS,n,c.tick,c.kind,c.person,c.item,c.value,c.text⟩]:=by
 unfold cured at h ⊢;split at h
 ·exact absurd rfl h
 ·rename_i hn
  simp only[List.length_cons,List.length_nil]at hn;rw[if_neg (by simpa using hn)];exact⟨grtN es+1+(0:Nat),by omega,by omega,rfl⟩
section
variable {fm : Ev -> ByteArray} {es E : List Ev} {p i : ByteArray} {now crowd span : Int} {r : Option (Option Nd)}
theorem rise1 (hc:Closed es)(hm:∀e∈es,mayB e=true)(hne:cureP es 1 p i now crowd≠[])(hE:AnewIs fm (es++cureP es 1 p i now crowd) E):whyW E p i now crowd span r=0\/1<whyW E p i now crowd span r:=by
 have ho:=Zb0 (y:=1) (p:=p) (i:=i) (now:=now) (crowd:=crowd) hc hm;obtain⟨n,h1,h2,h3⟩:=Zfk (es:=es) (c:=listE es i now) (by simpa [cureP,cureL] using hne);have h4:cureP es 1 p i now crowd=_:=h3;rw[h4]at hE ho;have hl:=Zdz es i now;obtain⟨s,h5,_,_⟩:=Zhf (p:=p) (i:=i) (now:=now) hc hm ho hE rfl h1 (decide_eq_true (Or.inl hl.1)) hl.2.1 hl.2.2.1;refine why1 ?_;show ((atP (thgs E) i now).getD it0).listed=true;rw[h5];unfold stepSt;rw[if_pos (show _=(11:Int) from hl.1)]
 rfl
theorem rise2 (hc:Closed es)(hm:∀e∈es,mayB e=true)(hw:whyW es p i now crowd span r=2)(hne:cureP es 2 p i now crowd≠[])(hE:AnewIs fm (es++cureP es 2 p i now crowd) E):whyW E p i now crowd span r=0\/2<whyW E p i now crowd span r:=by
 have ho:=Zb0 (y:=2) (p:=p) (i:=i) (now:=now) (crowd:=crowd) hc hm;obtain⟨n,h1,h2,h3⟩:=Zfk (es:=es) (c:=stockE i now) (by simpa [cureP,cureL] using hne);have h4:cureP es 2 p i now crowd=_:=h3;rw[h4]at hE ho;obtain⟨s,h5,h6,_⟩:=Zhf (p:=p) (i:=i) (now:=now) hc hm ho hE rfl h1 (decide_eq_true (Or.inr (Or.inl rfl))) rfl rfl;have hlis:((atP (thgs es) i now).getD it0).listed=true:=Zcf.2.1 (show 1<whyW es p i now crowd span r by omega);have hitem:s.item.listed=true:=by
  rw[h6];cases ha:atP (thgs es) i now with
  | none=>rw[ha]at hlis;cases hlis
  | some x=>rw[ha]at hlis;exact hlis
 refine why2 ?_ ?_
 ·show ((atP (thgs E) i now).getD it0).listed=true;rw[h5];exact hitem
 ·show ((atP (thgs E) i now).getD it0).stock≠0;rw[h5];show (1:Int)≠0;omega
theorem Zob {cs:List Ev}(h:∀c∈cs,c.kind<11):atP (thgs (es++cs)) i now=atP (thgs es) i now:=by rw[Zoa h]
theorem rise3 (hc:Closed es)(hm:∀e∈es,mayB e=true)(hw:whyW es p i now crowd span r=3)(hne:cureP es 3 p i now crowd≠[])(hE:AnewIs fm (es++cureP es 3 p i now crowd) E):whyW E p i now crowd span r=0\/3<whyW E p i now crowd span r:=by
 have ho:=Zb0 (y:=3) (p:=p) (i:=i) (now:=now) (crowd:=crowd) hc hm;have hcl:cureL es 3 p i now crowd=unhideL es p i now:=rfl;unfold cureP at hE ho hne;rw[hcl]at hE ho hne;have hEE:=Zkz hc hm (fun c h=>(Zcg h).2.1) ho hE
 have hk:∀c∈cured es (unhideL es p i now),c.kind<11:=fun c h=>by
  obtain⟨c',h1,n,_,_,rfl⟩:=Zbl h;rcases (Zcg h1).2.2.1 with h2|h2 <;> show c'.kind<11 <;> omega
 have h1:((atP (thgs es) i now).getD it0).listed=true:=Zcf.2.1 (show 1<whyW es p i now crowd span r by omega);have h2:((atP (thgs es) i now).getD it0).stock≠0:=Zcf.2.2.2.1 (show 2<whyW es p i now crowd span r by omega);have hit:atP (thgs E) i now=atP (thgs es) i now:=by rw[hEE];exact Zob hk
 refine why3 ?_ ?_ ?_
 ·show ((atP (thgs E) i now).getD it0).listed=true;rw[hit];exact h1
 ·show ((atP (thgs E) i now).getD it0).stock≠0;rw[hit];exact h2
 ·unfold hidP;rw[hit,Zdg,Zdh,hEE,Ze0 hk];have hnum:cured es (unhideL es p i now)=numL (grtN es) 0 (unhideL es p i now):=by
   unfold cured at hne ⊢;split at hne
   ·exact absurd rfl hne
   ·rename_i hn;rw[if_neg hn]
  rw[hnum];have hid0:=Zdg es p i;have mut0:=Zdh es p (mkrP es i now);unfold unhideL;by_cases c1:(hidO (rowsW es) p i).getD false=true
  ·rw[if_pos c1];by_cases c2:mutO (rowsW es) p (mkrP es i now)=some true
   ·rw[if_pos c2];simp only[List.cons_append,List.nil_append,numL];rw[show ∀(l:List Ev) (a b:Ev),l++[a,b]=l++[a]++[b] from fun l a b=>by simp];rw[Zbc,Zbc,Zbc,Zbc];simp[mkrP]
   ·rw[if_neg c2];simp only[List.append_nil,numL];rw[Zbc,Zbc];rw[mut0]at c2;unfold mkrP at c2;simp only[Bool.decide_and]at c2;simp;exact c2
  ·rw[if_neg c1];by_cases c2:mutO (rowsW es) p (mkrP es i now)=some true
   ·rw[if_pos c2];simp only[List.nil_append,numL];rw[Zbc,Zbc];rw[hid0]at c1;simp[mkrP];simpa using c1
   ·rw[if_neg c2];simp only[List.append_nil,numL];rw[hid0]at c1;rw[mut0]at c2;unfold mkrP at c2;simp only[Bool.decide_and]at c2;simp;exact⟨by simpa using c1,c2⟩
end
end Go.Proofs.YtnpfaajhgghpgaaGreatDoor
namespace Go.Proofs.YtnpfaajhgghpgaaGreatDoor
open Ct (It St it0 st0 atP takesB catB stepSt rowOf uptoP ofN rowStep)
open Ru (Fz fzX Nd holdsR digW Zd8 Zak)
theorem Zl4 {α:Type}(f:α->Bool)(l:List α):(l.filter f).length+(l.filter fun x=>!f x).length=l.length:=by
 induction l with
 | nil=>rfl
 | cons x l ih=>cases h:f x <;> simp[h] <;> omega
theorem Zii {α β:Type}{f:α->β}(hf:∀a b,f a=f b->a=b){l:List α}(h:l.Nodup):(l.map f).Nodup:=
 List.pairwise_map.2 (h.imp (fun {a b} hab e=>hab (hf a b e)))
theorem Zfl (es:List Ev)(m:Nat):m<=((List.range' 1 m).filter fun k=>!knownB es (nS k)).length+es.length:=by
 have h1:=Zl4 (fun k=>knownB es (nS k)) (List.range' 1 m);have h2:((List.range' 1 m).filter fun k=>knownB es (nS k)).length<=es.length:=by
  have h3:=Zcp (((List.range' 1 m).filter fun k=>knownB es (nS k)).map nS) (es.map (·.person)) (Zii (fun _ _=>Zro) (List.Nodup.sublist List.filter_sublist List.nodup_range')) (fun x hx=>by
   obtain⟨k,hk,rfl⟩:=List.mem_map.1 hx;obtain⟨e,he,h4⟩:=List.any_eq_true.1 (List.mem_filter.1 hk).2;exact List.mem_map.2 ⟨e,he,of_decide_eq_true h4⟩)
  simpa using h3
 rw[List.length_range']at h1;omega
theorem Zd0 (es:List Ev)(n:Nat):(newN es n).length=n:=by
 unfold newN;rw[List.length_take];have:=Zfl es (es.length+n);omega
theorem Zl5 (es:List Ev)(n:Nat):(newN es n).Nodup:=List.Nodup.sublist ((List.take_sublist _ _).trans List.filter_sublist) List.nodup_range'
theorem Zdi {g:Int}:∀(cs:List Ev) (k:Nat),(numL g k cs).map (·.person)=cs.map (·.person)
 | [],_=>rfl
 | c::r,k=>by simp[numL,Zdi r (k+1)]
section
variable {fm : Ev -> ByteArray} {es E : List Ev} {p i : ByteArray} {now crowd span : Int} {r : Option (Option Nd)}
theorem rise5 (hc:Closed es)(hm:∀e∈es,mayB e=true)(hw:whyW es p i now crowd span r=5)(hne:cureP es 5 p i now crowd≠[])(hE:AnewIs fm (es++cureP es 5 p i now crowd) E):whyW E p i now crowd span r=0\/5<whyW E p i now crowd span r:=by
 have ho:=Zb0 (y:=5) (p:=p) (i:=i) (now:=now) (crowd:=crowd) hc hm;have hcl:cureL es 5 p i now crowd=openL es i now crowd:=rfl;unfold cureP at hE ho hne;rw[hcl]at hE ho hne;have hEE:=Zkz hc hm (fun c h=>by obtain⟨k,rfl,_⟩:=Zei h;rfl) ho hE
 have hk1:∀c∈cured es (openL es i now crowd),c.kind=1/\c.item=i/\knownB es c.person=false:=fun c h=>by
  obtain⟨c',h1,n,_,_,rfl⟩:=Zbl h;obtain⟨k,rfl,h2,_⟩:=Zei h1;exact⟨rfl,rfl,h2⟩
 have hk:∀c∈cured es (openL es i now crowd),c.kind<11:=fun c h=>by have:=(hk1 c h).1;omega
 have h1:((atP (thgs es) i now).getD it0).listed=true:=Zcf.2.1 (show 1<whyW es p i now crowd span r by omega);have h2:((atP (thgs es) i now).getD it0).stock≠0:=Zcf.2.2.2.1 (show 2<whyW es p i now crowd span r by omega);have h3:hidP es p i now=false:=Zcf.2.2.2.2.2.1 (show 3<whyW es p i now crowd span r by omega);have h4:doneB (rowsW es) p i=false:=Zcf.2.2.2.2.2.2.1 (show 4<whyW es p i now crowd span r by omega);have h5:(fansN (rowsW es) i:Int)<crowd:=(Zcf.2.2.2.2.2.2.2.1 (show whyW es p i now crowd span r=5 from hw)).1;have hit:atP (thgs E) i now=atP (thgs es) i now:=by rw[hEE];exact Zob hk
 refine why5 ?_ ?_ ?_ ?_ ?_
 ·show ((atP (thgs E) i now).getD it0).listed=true;rw[hit];exact h1
 ·show ((atP (thgs E) i now).getD it0).stock≠0;rw[hit];exact h2
 ·unfold hidP at h3 ⊢;rw[Zdg,Zdh]at h3;rw[hit,Zdg,Zdh,hEE,Ze0 hk,Zif (fun c h _=>by have:=(hk1 c h).1;omega),Zif (fun c h _=>by have:=(hk1 c h).1;omega)];exact h3
 ·show doneB (rowsW E) p i=false;rw[Zeu]at h4;rw[Zeu,hEE,Ze0 hk,List.any_append,h4,Bool.false_or,List.any_eq_false];intro c h;have:=(hk1 c h).1;simp[this]
 ·show ¬(fansN (rowsW E) i:Int)<crowd;have hnum:cured es (openL es i now crowd)=numL (grtN es) 0 (openL es i now crowd):=by
   unfold cured at hne ⊢;split at hne
   ·exact absurd rfl hne
   ·rename_i hn;rw[if_neg hn]
  have hop:openL es i now crowd=(newN es (crowd - fansN (rowsW es) i).toNat).map (openE es i now):=by
   unfold openL at hne ⊢;split at hne
   ·exact absurd (Zbo es) hne
   ·rename_i hn;rw[if_neg hn]
  have hfan:fansN (rowsW E) i=fansN (rowsW es) i+(crowd - fansN (rowsW es) i).toNat:=by
   unfold fansN;rw[Zeh,Zeh,hEE,Ze0 hk,Zs6 _ (fun c h=>⟨(hk1 c h).2.1,by unfold worthP;rw[if_pos (hk1 c h).1];omega,fun hf=>?_⟩)]
   ·rw[List.length_append,hnum,Zdi,hop,List.map_map,List.length_map,Zd0];unfold fansN;rw[Zeh]
   ·rw[hnum,Zdi,hop,List.map_map];exact Zii (f:=fun k=>(openE es i now k).person) (fun _ _ e=>Zro e) (Zl5 es _)
   ·rw[<-Zeh]at hf;have h6:=((Zml (rowsW es) i).2 _).1 hf;rw[Zsf]at h6;obtain⟨e,he,h7⟩:=List.any_eq_true.1 h6;rw[Bool.and_eq_true]at h7;have h8:knownB es c.person=true:=List.any_eq_true.2 ⟨e,(List.mem_filter.1 he).1,decide_eq_true (of_decide_eq_true h7.1).1⟩;rw[(hk1 c h).2.2]at h8;cases h8
  rw[hfan];omega
theorem Ze1 (hc:Closed es)(hm:∀e∈es,mayB e=true){y:Nat}(hw:whyW es p i now crowd span r=y)(h0:y≠0)(hne:cureP es y p i now crowd≠[])(hE:AnewIs fm (es++cureP es y p i now crowd) E):whyW E p i now crowd span r=0\/y<whyW E p i now crowd span r:=by
 have hle:y<=6:=by rw[<-hw];exact Zdf _ _ _ _ _
 have hy:y=1\/y=2\/y=3\/y=4\/y=5\/y=6:=by omega
 rcases hy with rfl|rfl|rfl|rfl|rfl|rfl
 ·exact rise1 hc hm hne hE
 ·exact rise2 hc hm hw hne hE
 ·exact rise3 hc hm hw hne hE
 ·exact absurd (Zbo es) hne
 ·exact rise5 hc hm hw hne hE
 ·exact absurd (Zbo es) hne
end
theorem Zqv {s:List UInt8}(h:(Lib.cut s [59]).2.2=true):(Lib.cut s [59]).1++[59]++(Lib.cut s [59]).2.1=s:=by
 unfold Lib.cut at h ⊢;split at h
 ·rename_i h0
  rw[if_pos h0];rcases Lib.index_spec s [59] with ⟨h1,_⟩|⟨i,h1,h2,h3,_⟩
  ·omega
  ·rw[h1];show s.take i++[59]++s.drop (i+1)=s;have h4:s.drop i=59::s.drop (i+1):=by
    unfold Lib.occAt at h3;cases hd:s.drop i with
    | nil=>rw[hd]at h3;simp at h3
    | cons x r=>
     rw[hd]at h3;simp at h3;have:=congrArg (List.drop 1) hd;rw[List.drop_drop]at this;simp at this;rw[this,h3]
   rw[List.append_assoc];show s.take i++(59::s.drop (i+1))=s;rw[<-h4,List.take_append_drop]
 ·cases h
theorem Zk1 {s:ByteArray}(h:cutsP s=true):headP s++⟨#[59]⟩++restP s=s:=by
 apply ba_eq;rw[Ru.Za6,Ru.Za6];have:=Zqv (s:=s.data.toList) h;unfold headP restP;simpa using this
theorem Zf9 {s:ByteArray}(h:listB s=true):cutsP s=true/\nameB (headP s)=true:=by
 unfold listB at h;rw[Bool.and_eq_true,Bool.and_eq_true]at h;exact⟨h.1,h.2.1⟩
theorem Zk2 {e:Ev}(h:mayB e=true)(hk:e.kind=11):listB e.text=true:=by
 have h1:=(Zas h).2.2.2;unfold kindB at h1;rw[hk]at h1;simp at h1;exact h1.2.2.2.2
theorem Zk3 {e:Ev}(h:mayB e=true)(hk:e.kind=9):nameB e.text=true:=by
 have h1:=(Zas h).2.2.2;unfold kindB at h1;rw[hk]at h1;simp at h1;exact h1.2.2.2
theorem Zs7 {es:List Ev}(hm:∀e∈es,mayB e=true){n:ByteArray}{t:Int}{x:It}(hx:atP (thgs es) n t=some x):(x.maker=⟨#[]⟩/\x.tags=⟨#[]⟩/\x.listed=false)\/∃s,listB s=true/\headP s=x.maker/\restP s=x.tags:=by
 refine Zng (Q:=fun x=>(x.maker=⟨#[]⟩/\x.tags=⟨#[]⟩/\x.listed=false)\/∃s,listB s=true/\headP s=x.maker/\restP s=x.tags) (Or.inl ⟨rfl,rfl,rfl⟩) (fun e he _ s hb hq=>?_) (fun e he=>(Zas (hm e (Zax.1 he).1)).2.2.1.1) hx;unfold stepSt;split
 ·rename_i hk
  exact Or.inr ⟨e.text,Zk2 (hm e (Zax.1 he).1) hk,rfl,rfl⟩
 ·split
  ·exact hq
  ·rcases hq with ⟨h1,h2,_⟩|hq
   ·exact Or.inl ⟨h1,h2,rfl⟩
   ·exact Or.inr hq
theorem Zoc:listB noneT=true:=by decide
theorem Zji {k:Nat}(hk:k<=1000000000):nameB (nS k)=true:=by
 unfold nameB;rw[Bool.and_eq_true];have hl:(nS k).data.toList = [110,45]++Lib.decDigits k:=by unfold nS;rw[Ru.Za6,Zak]
 have hs:(nS k).size=2+(Lib.decDigits k).length:=by
  have:(nS k).size=(nS k).data.toList.length:=by simp
  rw[this,hl];simp;omega
 refine⟨decide_eq_true ?_,List.all_eq_true.2 (fun b hb=>decide_eq_true ?_)⟩
 ·have:=Lib.itoa_length_le (k:Int) (by omega) (by omega);rw[Lib.itoa_nonneg]at this;omega
 ·rw[hl]at hb;unfold okN;rcases List.mem_append.1 hb with hb|hb
  ·simp at hb;rcases hb with rfl|rfl
   ·exact Or.inl (by decide)
   ·exact Or.inr (Or.inr (by decide))
  ·have:=Ru.Zkj k b hb;omega
theorem Zk4 {e:Ev}(h1:nameB e.src=true)(h2:1<=e.num/\e.num<=1099511627776)(h3:0<=e.tick/\e.tick<=1099511627776)(h4:kindB e=true):mayB e=true:=by
 unfold mayB;rw[h1,decide_eq_true h2,decide_eq_true h3,h4]
 rfl
theorem Zqw {es:List Ev}{y:Nat}{p i:ByteArray}{now crowd:Int}(hm:∀e∈es,mayB e=true)(hp:nameB p=true)(hi:nameB i=true)(hn:0<=now/\now<=1099511627776)(hl:es.length<=100000)(hsh:∀e∈es,EvLe 1000000 e):∀c∈cureP es y p i now crowd,mayB c=true:=by
 intro c hc;obtain⟨c',h1,n,h2,h3,rfl⟩:=Zbl hc;have hg:=(Zdx es hm).1;have hlate:0<=lateP es now/\lateP es now<=1099511627776:=by
  rcases (Zhe es now).2.2 with h|⟨e,he,h⟩
  ·omega
  ·rw[h];exact (Zas (hm e he)).2.2.1
 have hiz:i.size<=24:=Zay hi;unfold cureL at h1;split at h1
 ·obtain rfl:=List.mem_singleton.1 h1;refine Zk4 Zhd ⟨by show 1<=n;omega,h3⟩ (by rw[show _=now from (Zdz es i now).2.1];exact hn) ?_;unfold listE;split
  ·show kindB ⟨zzS,n,now,11,⟨#[]⟩,i,0,noneT⟩=true;unfold kindB;simp[empB,hi,Zoc]
  ·rename_i hne
   show kindB ⟨zzS,n,now,11,⟨#[]⟩,i,((atP (thgs es) i now).getD it0).price,mkrP es i now++⟨#[59]⟩++((atP (thgs es) i now).getD it0).tags⟩=true;cases ha:atP (thgs es) i now with
   | none=>unfold mkrP at hne;rw[ha]at hne;exact absurd rfl hne
   | some x=>
    have hp2:=(at_ok (m:=1000000) hm hsh (by omega) ha).price;rcases Zs7 hm ha with ⟨h4,_⟩|⟨s,h4,h5,h6⟩
    ·unfold mkrP at hne;rw[ha]at hne;exact absurd h4 hne
    ·have h7:mkrP es i now=x.maker:=by unfold mkrP;rw[ha];rfl
     have h8:=Zk1 (Zf9 h4).1;rw[h7,show ((some x).getD it0)=x from rfl,<-h5,<-h6,h8];unfold kindB;simp[empB,hi,h4,hp2.1,hp2.2]
 split at h1
 ·obtain rfl:=List.mem_singleton.1 h1;refine Zk4 Zhd ⟨by show 1<=n;omega,h3⟩ hn ?_;show kindB ⟨zzS,n,now,12,⟨#[]⟩,i,1,⟨#[]⟩⟩=true;unfold kindB;simp[empB,hi]
 split at h1
 ·obtain⟨h4,h5,h6,h7⟩:=Zcg h1;refine Zk4 Zhd ⟨by show 1<=n;omega,h3⟩ (by rw[show _=lateP es now from h5];exact hlate) ?_;rcases h6 with ⟨h8,h9,h10,h11⟩|⟨h8,h9,h10,h11⟩
  ·rw[h4,h8,h10,h11,h7];unfold kindB;simp[empB,hp,hi]
  ·obtain⟨r,hr,hr1,hr2⟩:=Zcu h9;have hr3:=of_decide_eq_true hr1;have hmk:=Zk3 (hm _ (Zcr hr).1) hr2;rw[hr3.2]at hmk;rw[h4,h8,h10,h11,h7];unfold kindB;simp[empB,hp,hmk]
 split at h1
 ·obtain⟨k,rfl,h4,h5,h6⟩:=Zei h1;refine Zk4 Zhd ⟨by show 1<=n;omega,h3⟩ hlate ?_;show kindB ⟨zzS,n,lateP es now,1,nS k,i,0,⟨#[]⟩⟩=true;unfold kindB;simp[empB,Zji (k:=k) (by omega),hi]
 ·cases h1
end Go.Proofs.YtnpfaajhgghpgaaGreatDoor

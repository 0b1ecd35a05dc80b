/- A part of the joined base. -/
import Derived.Test.YtnpfaajhgghpgaaGreatDoorU01
import Derived.Test.YtnpfaajhgghpgaaGreatDoorProg
import Derived.Deep.QuietTactic
import Derived.BigQuiet
import Derived.WalkLawsBesides
import Derived.Outline
import Derived.Test.YtnpfaajhgghpgaaGreatDoorLay
import Derived.Lib.Bytealg
set_option linter.unusedVariables false
set_option maxHeartbeats 8000000
set_option maxRecDepth 100000
namespace Go.Proofs.YtnpfaajhgghpgaaGreatDoor
def upTo (m:Nat):Nat->Array Bool
 | 0=>Array.replicate m false
 | k+1=>(upTo m k).setIfInBounds k true
theorem Ze3 (m:Nat):∀k,(upTo m k).size=m
 | 0=>by simp[upTo]
 | k+1=>by simp[upTo,Ze3 m k]
theorem Zhi (m:Nat):∀k i,k<=i->i<m->(upTo m k).getD i true=false
 | 0,i,_,hi=>by simp[upTo,hi]
 | k+1,i,hk,hi=>by
  unfold upTo;rw[getD_set_ne true (by omega)];exact Zhi m k i (by omega) hi
theorem Zfq (m:Nat):∀k i,(upTo m k).getD i false=true->i<k
 | 0,i,h=>by unfold upTo at h;rw[getD_replicate_false]at h;cases h
 | k+1,i,h=>by
  by_cases hi:k=i
  ·omega
  ·unfold upTo at h;rw[getD_set_ne false hi]at h;have:=Zfq m k i h;omega
theorem Zhj (m:Nat):∀k i,i<k->i<m->(upTo m k).getD i false=true
 | 0,i,h,_=>by omega
 | k+1,i,h,hm=>by
  unfold upTo;by_cases hi:k=i
  ·subst hi;simp[Ze3,hm]
  ·exact getD_set_true (Zhj m k i (by omega) hm)
section
variable {P : Program} {ops : Array Oper} {md : Region.Mode} {w : World}
def fanB (md:Region.Mode)(ops:Array Oper)(k n:Nat):Bool:=
 ((List.range n).all fun i=>decide (i<k) || (List.range (n+1)).any fun j=>decide (i<j)&&Region.waitsFor md ops j i) &&
 ((List.range ops.size).all fun t=>decide (t<=n) || (List.range t).any fun s=>decide (n<=s)&&Region.waitsFor md ops t s)
def shutB (md:Region.Mode)(ops:Array Oper)(k:Nat):Bool:=
 (List.range k).all fun j=>match ops[j]? with|some o=>o.after.all fun e=>!Region.binds md e || decide (e.on<k/\e.on<ops.size)|none=>true
theorem Zla {k n:Nat}(hs:shutB md ops k=true)(hkn:k<=n):HeadInv md ops n (upTo ops.size k):=by
 refine⟨Ze3 _ _,fun j oj hj hl e he hb=>?_,fun t ht hm=>Zhi _ k t (by omega) hm⟩;have hjk:=Zfq _ _ _ hl;have h1:=List.all_eq_true.1 hs j (List.mem_range.2 hjk);rw[hj]at h1;have h2:=Array.all_eq_true_iff_forall_mem.1 h1 e he;rw[hb]at h2;simp at h2;exact Zhj _ _ _ h2.1 h2.2
theorem Zmc {k n:Nat}(hf:fanB md ops k n=true){listed:Array Bool}(inv:HeadInv md ops n listed) :
  ∀(d i:Nat),n - i<=d->k<=i->i<n->listed.getD i true=false->∀t,n<=t->t ∉ Region.ready md ops listed:=by
 unfold fanB at hf;rw[Bool.and_eq_true]at hf;obtain⟨f1,f2⟩:=hf;intro d
 induction d with
 | zero=>intro i hd _ hi;omega
 | succ d ih=>
  intro i hd hki hin hun t ht hr;obtain⟨_,ot,hot,hall⟩:=mem_ready.1 hr;have htm:t<ops.size:=(Array.getElem?_eq_some_iff.1 hot).1;rcases Nat.lt_or_ge n t with hnt|hnt
  ·have h1:=List.all_eq_true.1 f2 t (List.mem_range.2 htm);rw[Bool.or_eq_true,decide_eq_true_eq]at h1;rcases h1 with h1|h1
   ·omega
   ·obtain⟨s,hs,hs2⟩:=List.any_eq_true.1 h1;rw[Bool.and_eq_true,decide_eq_true_eq]at hs2;obtain⟨o',ho',e,he,hb,hon⟩:=Region.waitsFor_spec hs2.2;obtain rfl:o'=ot:=Option.some.inj (ho'.symm.trans hot);have h3:=hall e he hb;have hsl:=List.mem_range.1 hs;rw[hon,getD_both (inv.tail s hs2.1 (by omega))]at h3;cases h3
  ·have h1:=List.all_eq_true.1 f1 i (List.mem_range.2 hin);rw[Bool.or_eq_true,decide_eq_true_eq]at h1;rcases h1 with h1|h1
   ·omega
   ·obtain⟨j,hj,hj2⟩:=List.any_eq_true.1 h1;rw[Bool.and_eq_true,decide_eq_true_eq]at hj2;obtain⟨oj,hoj,e,he,hb,hon⟩:=Region.waitsFor_spec hj2.2;have hjn:=List.mem_range.1 hj;rcases Nat.lt_or_ge j n with hlt|hge
    ·cases hl:listed.getD j false with
     | true=>
      have h3:=inv.closed j oj hoj hl e he hb;rw[hon,getD_both hun]at h3;cases h3
     | false=>exact ih j (by omega) (by omega) hlt (getD_in (by rw[inv.size];exact (Array.getElem?_eq_some_iff.1 hoj).1) hl) t ht hr
    ·obtain rfl:j=t:=by omega
     obtain rfl:oj=ot:=Option.some.inj (hoj.symm.trans hot);have h3:=hall e he hb;rw[hon,getD_both hun]at h3;cases h3
theorem Zlb {n i:Nat}{oi:Oper}{v:Value}{L:Array Bool->Act->Prop}(hi:ops[i]? = some oi)(hsel:∀(j:Nat) (o:Oper) cs b,ops[j]? = some o->o.op≠.select cs b)(hin:i<n)
  (hW:∀listed,HeadInv md ops n listed->listed.getD i true=false->∀t∈Region.ready md ops listed,t<n) (hL:∀listed a,L listed a->∀j∈Region.ready md ops listed,n<=j) :
  ∀(f:Nat) (listed:Array Bool) (a:Act),HeadInv md ops n listed ->
   (∀j oj,ops[j]? = some oj->j≠i->listed.getD j true=false->(∀e∈oj.after,Region.binds md e=true->e.on≠i)->oi.apart ops oj=true) ->
   i∈Region.ready md ops listed->YieldsAt P ops w oi v a->wpAnyL P md ops w n L f (listed.setIfInBounds i true) (a.put oi.dst v)->wpAnyL P md ops w n L (f+1) listed a:=by
 intro f
 induction f with
 | zero=>
  intro listed a inv _ hr hy H;refine⟨List.ne_nil_of_mem hr,fun j hj=>?_⟩;have hjn:=hW listed inv (mem_ready.1 hr).1 j hj;by_cases hji:j=i
  ·subst hji;exact⟨hjn,hy.stOp hi H⟩
  ·have:=hL _ _ H j (ready_mono hj hji);omega
 | succ f ih=>
  intro listed a inv hfree hr hy H;refine⟨List.ne_nil_of_mem hr,fun j hj=>?_⟩;have hun:=(mem_ready.1 hr).1;have hjn:=hW listed inv hun j hj;by_cases hji:j=i
  ·subst hji;exact⟨hjn,hy.stOp hi H⟩
  ·obtain⟨hjun,oj,hoj,hall⟩:=mem_ready.1 hj;have hno:∀e∈oj.after,Region.binds md e=true->e.on≠i:=by
    rintro e he hb rfl;have h1:=hall e he hb;rw[getD_both hun]at h1;cases h1
   refine⟨hjn,stOp_mono (fun a' h3=>ih _ a' (inv.set hj hjn) (fun k ok hk hki hunk hnok=>hfree k ok hk hki ?_ hnok) (ready_mono hr (Ne.symm hji)) h3.1 ?_)
    (stOp_put hoj (hfree j oj hoj hji hjun hno) (fun cs b=>hsel i oi cs b hi) (fun cs b=>hsel j oj cs b hoj) hy (H.2 j (ready_mono hj hji)).2)⟩
   ·by_cases hjk:j=k
    ·subst hjk;exact hjun
    ·rw[getD_set_ne true hjk]at hunk;exact hunk
   ·rw[Array.setIfInBounds_comm _ _ hji];exact h3.2
def lexB (md:Region.Mode)(ops:Array Oper)(n:Nat):Nat->Nat->Bool
 | 0,k=>decide (k=n)&&decide (Region.ready md ops (upTo ops.size n) = [n])
 | f+1,k=>(Region.ready md ops (upTo ops.size k)).contains k&&Region.free md ops (upTo ops.size k) k&&lexB md ops n f (k+1)
theorem Zjr {n:Nat}{Lq:Act->Prop}(hsel:Region.noSelect ops=true)(k0:Nat)(hf:fanB md ops k0 n=true) :
  ∀(l:List Oper) (k:Nat) (a:Act),(∀j,j<l.length->l[j]? = ops[k+j]?)->k+l.length=n->k0<=k->HeadInv md ops n (upTo ops.size k)->lexB md ops n l.length k=true->wpStill P ops w Lq l a ->
  wpAnyL P md ops w n (fun listed' a'=>listed'=upTo ops.size n/\Lq a') l.length (upTo ops.size k) a
 | [],k,a,_,hk,_,_,hB,h=>by
  obtain rfl:k=n:=by simpa using hk
  exact⟨rfl,h⟩
 | o::l,k,a,hl,hk,hk0,inv,hB,h=>by
  have h0:ops[k]? = some o:=by simpa using (hl 0 (by simp)).symm
  simp only[List.length_cons,lexB,Bool.and_eq_true]at hB;obtain⟨⟨hr,hfr⟩,hB'⟩:=hB;have hkn:k<n:=by simp only[List.length_cons]at hk;omega
  have hr':k∈Region.ready md ops (upTo ops.size k):=by simpa using hr
  have hst:stOp P ops w k (wpStill P ops w Lq l) a:=by unfold stOp;simp only[h0];exact h
  obtain⟨v,hy,hK⟩:=yieldsAt_of_stOp h0 hst;have hend:Region.ready md ops (upTo ops.size n) = [n]:=by
   clear hst hy hK h hl inv hr hfr hr' h0;have:∀(f k:Nat),lexB md ops n f k=true->Region.ready md ops (upTo ops.size n) = [n]:=by
    intro f
    induction f with
    | zero=>intro k h;simp only[lexB,Bool.and_eq_true,decide_eq_true_eq]at h;exact h.2
    | succ f ih=>intro k h;simp only[lexB,Bool.and_eq_true]at h;exact ih _ h.2
   exact this _ _ hB'
  refine Zlb h0 (Region.noSelect_spec hsel) hkn (fun listed inv' hun t ht=>?_) (fun listed a hL j hj=>?_) l.length _ a inv (Region.free_spec h0 hfr) hr' hy
   (Zjr hsel k0 hf l (k+1) _ (fun j hj=>by have:=hl (j+1) (by simp;omega);simpa [Nat.add_assoc,Nat.add_comm 1 j] using this) (by simp only[List.length_cons]at hk;omega) (by omega) (inv.set hr' hkn) hB' hK)
  ·rcases Nat.lt_or_ge t n with h1|h1
   ·exact h1
   ·exact absurd ht (Zmc hf inv' (n - k) k (zr _) hk0 hkn hun t h1)
  ·rw[hL.1,hend]at hj;simp at hj;omega
def textB (md:Region.Mode)(ops:Array Oper):List Nat->Nat->Bool
 | [],k=>Region.lexFrom md ops (ops.size - k) k (upTo ops.size k)
 | n::fs,k=>decide (k<=n)&&decide (n<ops.size)&&fanB md ops k n&&shutB md ops k&&lexB md ops n (n - k) k&&textB md ops fs (n+1)
def wpText (P:Program)(ops:Array Oper)(Q:Exit->Act->World->Prop):List Nat->Nat->List Oper->Act->World->Prop
 | [],_,l,a,w=>wpStill P ops w (fun a'=>Q .normal a' w) l a
 | n::fs,k,l,a,w=>wpStill P ops w (fun a'=>wpList P ops (Exit.then (fun a'' w''=>wpText P ops Q fs (n+1) (l.drop (n - k+1)) a'' w'') Q) ((l.drop (n - k)).take 1) a' w) (l.take (n - k)) a
theorem Zfr {Q:Exit->Act->World->Prop}(hsel:Region.noSelect ops=true):∀(fs:List Nat) (k:Nat) (l:List Oper) (a:Act) (w:World),(∀j,l[j]? = ops[k+j]?)->k+l.length=ops.size->textB md ops fs k=true ->
  wpText P ops Q fs k l a w->wpAny P md ops Q (ops.size - k) (upTo ops.size k) a w
 | [],k,l,a,w,hl,hk,hB,h=>by
  have hlen:ops.size - k=l.length:=by omega
  rw[hlen];refine wpAny_of_still (Q:=fun a'=>Q .normal a' w) (fun _ h=>h) _ _ _ ?_;exact wpAnyS_lex hsel l k _ a hl (by rw[<-hlen];exact hB) h
 | n::fs,k,l,a,w,hl,hk,hB,h=>by
  simp only[textB,Bool.and_eq_true,decide_eq_true_eq]at hB;obtain⟨⟨⟨⟨⟨hkn,hnm⟩,hf⟩,hs⟩,hlex⟩,hB'⟩:=hB;have htl:(l.take (n - k)).length=n - k:=by simp;omega
  have hn0:ops[n]? = some (ops[n]'hnm):=Array.getElem?_eq_getElem hnm
  have H:=Zjr (P:=P) (w:=w) hsel k hf (l.take (n - k)) k a (fun j hj=>by
   rw[htl]at hj;rw[List.getElem?_take_of_lt hj];exact hl j) (by rw[htl];omega) (zr _) (Zla hs hkn) (by rw[htl];exact hlex) h
  have hend:Region.ready md ops (upTo ops.size n) = [n]:=by
   have:∀(f k:Nat),lexB md ops n f k=true->Region.ready md ops (upTo ops.size n) = [n]:=by
    intro f
    induction f with
    | zero=>intro k h;simp only[lexB,Bool.and_eq_true,decide_eq_true_eq]at h;exact h.2
    | succ f ih=>intro k h;simp only[lexB,Bool.and_eq_true]at h;exact ih _ h.2
   exact this _ _ hlex
  have hd:(l.drop (n - k)).take 1 = [ops[n]'hnm]:=by
   have h1:l[n - k]? = some (ops[n]'hnm):=by rw[hl,show k+(n - k)=n from by omega];exact hn0
   obtain⟨hlt,h2⟩:=List.getElem?_eq_some_iff.1 h1;rw[List.drop_eq_getElem_cons hlt,h2]
   rfl
  have:=wpAny_of_head (Q':=Q) (g:=ops.size - n) (fun listed a' hL=>by
   obtain⟨rfl,hw⟩:=hL;rw[show ops.size - n=(ops.size - (n+1))+1 from by omega];refine⟨(fun h0=>by rw[hend]at h0;cases h0),fun i hi=>?_⟩;rw[hend]at hi;obtain rfl:i=n:=by simpa using hi
   rw[hd]at hw;have hw':wpOp P ops Q i (fun a'' w''=>wpText P ops Q fs (i+1) (l.drop (i - k+1)) a'' w'') a' w:=by
    unfold wpOp;rw[hn0];exact hw
   exact wpOp_mono (fun a'' w'' h3=>Zfr hsel fs (i+1) _ a'' w'' (fun j=>by
    rw[List.getElem?_drop,hl];congr 1;omega) (by simp;omega) hB' h3) hw') _ _ _ H
  rw[htl,show n - k+(ops.size - n)=ops.size - k from by omega]at this;exact this
theorem Ze4 {id:Nat}{Q:Exit->Act->World->Prop}{a:Act}{w:World}{l:List Oper}(fs:List Nat)(hm:P.follows .mixedOrders=true)(hB:(Region.noSelect l.toArray&&textB .any l.toArray fs 0)=true)
  (h:wpText P l.toArray Q fs 0 l a w.drew):(Code.region id l.toArray true).wp P Q a w:=by
 rw[Bool.and_eq_true]at hB;refine wp_region_any hm ?_;have:=Zfr (md:=.any) (Q:=Q) hB.1 fs 0 l a w.drew (by simp) (by simp) hB.2 h;simpa [upTo] using this
end
end Go.Proofs.YtnpfaajhgghpgaaGreatDoor
namespace Go.Proofs.YtnpfaajhgghpgaaGreatDoor
open Go.RowKit Go.Maps
section
variable {P : Program} (w : World) {ops : Array Oper} {rest : List Oper} {o : Oper} {a : Act} {Q : Exit -> Act -> World -> Prop}
theorem Zao (hg:o.guard=none)(m x:Operand)(t:TypeId)(hop:o.op=Op.lookup t m x false)
  (k e:TypeId) (K:Keyed P k) (ht:P.underlying t=some (.map k e)) (ok:Value->Bool) (z:Value) (hz:(zeroValue e).run P w = .ok z w) (hzo:ok z=true) (b n:Nat) (M:Lit->Option Value)
  (hm:a.eval m = .map (some b)) (hM:MapIs P k ok w b n M) (key:Value) (kl:Lit) (hx:a.eval x=key) (hkey:keyOf P k key=some kl) (v:Value) (hv:(M kl).getD z=v)
  (hK:wpList P ops Q rest (a.put o.dst v) w):wpList P ops Q (o::rest) a w:=by
 refine wpList_plain hg fun K' hK'=>?_;have hrun:=hM.look K ht hz hzo hkey;rw[hv]at hrun;unfold Oper.wp;simp[execOp,hop,hm,hx,hrun,Result.andThen];exact hK' _ _ hK
theorem Za0 (hg:o.guard=none)(m x:Operand)(t:TypeId)(hop:o.op=Op.lookup t m x true)
  (k e:TypeId) (K:Keyed P k) (ht:P.underlying t=some (.map k e)) (ok:Value->Bool) (z:Value) (hz:(zeroValue e).run P w = .ok z w) (hzo:ok z=true) (b n:Nat) (M:Lit->Option Value)
  (hm:a.eval m = .map (some b)) (hM:MapIs P k ok w b n M) (key:Value) (kl:Lit) (hx:a.eval x=key) (hkey:keyOf P k key=some kl) (v:Value) (hv:(M kl).getD z=v) (is:Bool) (hi:(M kl).isSome=is)
  (hK:wpList P ops Q rest (a.put o.dst (.tuple #[v,.bool is])) w):wpList P ops Q (o::rest) a w:=by
 refine wpList_plain hg fun K' hK'=>?_;have hrun:=hM.look_ok K ht hz hzo hkey;rw[hv,hi]at hrun;unfold Oper.wp;simp[execOp,hop,hm,hx,hrun,Result.andThen];exact hK' _ _ hK
theorem Zag (hg:o.guard=none)(m x v:Operand)(t:TypeId)(hop:o.op=Op.mapUpdate t m x v)
  (k e:TypeId) (K:Keyed P k) (ht:P.underlying t=some (.map k e)) (ok:Value->Bool) (b n:Nat) (M:Lit->Option Value)
  (hm:a.eval m = .map (some b)) (hM:MapIs P k ok w b n M) (hn:n<maxLen) (key val:Value) (kl:Lit) (hx:a.eval x=key) (hv:a.eval v=val) (hkey:keyOf P k key=some kl) (hval:ok val=true)
  (hK:∀w',MapIs P k ok w' b (n+1) (upd M kl val)->w.grownBy w' (some b)->w'.heap.size=w.heap.size->wpList P ops Q rest (a.put o.dst undef) w') :
  wpList P ops Q (o::rest) a w:=by
 refine wpList_plain hg fun K' hK'=>?_;obtain⟨w',hrun,r1,r2,r3⟩:=hM.store K ht hn hkey hval;unfold Oper.wp;simp[execOp,hop,hm,hx,hv,hrun,Result.andThen];exact hK' _ _ (hK w' r1 r2 r3)
theorem Zdl (hg:o.guard=none)(m:Operand)(t:TypeId)(hop:o.op=Op.range t m)(k e:TypeId)(K:Keyed P k)(ht:P.underlying t=some (.map k e))(ok:Value->Bool)(b n:Nat)(M:Lit->Option Value)
  (hm:a.eval m = .map (some b)) (hM:MapIs P k ok w b n M)
  (hK:∀w' cnt,MapGoes P k ok w' b w.heap.size n M (fun kl=>(M kl).isSome) cnt->w.grownBy w' none->w'.heap.size=w.heap.size+1->cnt<=n->wpList P ops Q rest (a.put o.dst (.pointer (some ⟨w.heap.size,0,none⟩))) w') :
  wpList P ops Q (o::rest) a w:=by
 refine wpList_plain hg fun K' hK'=>?_;obtain⟨w',cnt,hrun,r1,r2,r3,r4⟩:=hM.range K ht;unfold Oper.wp;simp[execOp,hop,hm,hrun,Result.andThen];exact hK' _ _ (hK w' cnt r1 r2 r3 r4)
end
end Go.Proofs.YtnpfaajhgghpgaaGreatDoor
namespace Go.Proofs.YtnpfaajhgghpgaaGreatDoor
open Go.RowKit Go.Maps
theorem Zab {a b:Bool}(h:a=b):Ending.returned (.bool a) = .returned (.bool b):=by rw[h]
def okN (n:Int):Prop:=(97<=n/\n<=122)\/(48<=n/\n<=57)\/n=45
instance (n : Int) : Decidable (okN n) := by unfold okN; infer_instance
def nameB (s:ByteArray):Bool:=decide (1<=s.size/\s.size<=24)&&s.data.toList.all fun b=>decide (okN b.toNat)
theorem Zjs {s:ByteArray}(h1:1<=s.size)(h2:s.size<=24)(h:∀(j:Nat) (hj:j<s.size),okN (s[j].toNat:Int)):nameB s=true:=by
 unfold nameB;rw[decide_eq_true ⟨h1,h2⟩,Bool.true_and,List.all_eq_true];intro b hb;obtain⟨j,hj,rfl⟩:=List.mem_iff_getElem.1 hb;exact decide_eq_true (h j (by simpa using hj))
theorem Zmd {s:ByteArray}{j:Nat}(hj:j<s.size)(h:¬okN (s[j].toNat:Int)):nameB s=false:=by
 unfold nameB;have:(s.data.toList.all fun b=>decide (okN b.toNat))=false:=by
  rw[List.all_eq_false];exact⟨s[j],List.getElem_mem (l:=s.data.toList) (by simpa using hj),by simpa using h⟩
 rw[this,Bool.and_false]
theorem Zer {s:ByteArray}(h:¬(1<=s.size/\s.size<=24)):nameB s=false:=by
 unfold nameB;rw[decide_eq_false h];rfl
theorem name_any (s:ByteArray)(w:World)(hs:s.size<=maxLen) :
  Calls Tryz.prog 43 #[.string s] w fun e w'=>e = .returned (.bool (nameB s))/\w=w':=by
 unfold maxLen at hs;by_cases h1:1<=s.size
 ·by_cases h2:s.size<=24
  ·have t1:decide ((s.size:Int)<1)=false:=decide_eq_false (by omega);have t2:decide ((24:Int)<(s.size:Int))=false:=decide_eq_false (by omega);go_enter Tryz.func43,Tryz.ntmps43;go_wp2;go_loop [15] (fun i=>∃k:Nat,k<=s.size/\i = .int .i64 k/\Hid (∀(j:Nat) (hj:j<s.size),j<k->okN (s[j].toNat:Int))) (fun i=>s.size - (intOf i).toNat)
   case atStart=>exact⟨0,Nat.zero_le _,rfl,zh (fun j _ h=>by omega)⟩
   case round=>
    obtain⟨k,hk,rfl,hok⟩:=hrel;by_cases hlt:k<s.size
    ·have HADD:Hid (okN (s[k].toNat:Int)->∀(j:Nat) (hj:j<s.size),j<k+1->okN (s[j].toNat:Int)):=zh (fun h j hj h2=>by
      by_cases e:j=k
      ·subst e;exact h
      ·exact hok.o j hj (by omega))
     have HNO:Hid (¬okN (s[k].toNat:Int)->nameB s=false):=zh (fun h=>Zmd hlt h);go_wp2
     all_goals first
      | (go_ret;exact⟨Zab (HNO.o (by unfold okN;first|omega|(simp_all <;> omega))).symm,rfl⟩)
      | (go_round
         case rel=>exact⟨k+1,by omega,by go_num,zh (HADD.o (by unfold okN;first|omega|(simp_all <;> omega)))⟩
         case measure=>simp[intOf];omega)
    ·have HF:Hid (nameB s=true):=zh (Zjs h1 h2 (fun j hj=>hok.o j hj (by omega)));go_wp2;go_ret;exact⟨Zab HF.o.symm,rfl⟩
  ·have t1:decide ((s.size:Int)<1)=false:=decide_eq_false (by omega);have t2:decide ((24:Int)<(s.size:Int))=true:=decide_eq_true (by omega);have HF:=zh (Zer (s:=s) (fun h=>h2 h.2));go_enter Tryz.func43,Tryz.ntmps43;go_wp2;go_ret;exact⟨Zab HF.o.symm,rfl⟩
 ·have t1:decide ((s.size:Int)<1)=true:=decide_eq_true (by omega);have HF:=zh (Zer (s:=s) (fun h=>h1 h.1));go_enter Tryz.func43,Tryz.ntmps43;go_wp2;go_ret;exact⟨Zab HF.o.symm,rfl⟩
end Go.Proofs.YtnpfaajhgghpgaaGreatDoor
namespace Go.Proofs.YtnpfaajhgghpgaaGreatDoor
open Go.RowKit Go.Maps
end Go.Proofs.YtnpfaajhgghpgaaGreatDoor
namespace Go.Proofs.YtnpfaajhgghpgaaGreatDoor
open Go.Shelf Go.RowKit Go.Lib Go.Maps
def GlobAt (w:World):Prop:=2<w.heap.size/\∃m,w.cell? ⟨2,0,none⟩=some (.int .i64 m)
theorem GlobAt.keep {w w':World}(h:GlobAt w){B:Nat}(hb:Below B w w')(hB:w.heap.size<=B):GlobAt w':=by
 obtain⟨h0,m,hm⟩:=h;exact⟨Nat.lt_of_lt_of_le h0 hb.size,m,by rw[<-hm];exact hb.cell (p:=⟨2,0,none⟩) (Nat.lt_of_lt_of_le h0 hB)⟩
theorem GlobAt.drewN {w:World}(h:GlobAt w)(n:Nat):GlobAt (w.drewN n):=h
theorem GlobAt.drew {w:World}(h:GlobAt w):GlobAt w.drew:=h
theorem GlobAt.kept {w w':World}{S:Nat->Prop}(h:GlobAt w)(k:Kept S w w')(hS:∀i,i<=2->¬S i):GlobAt w':=by
 obtain⟨h0,m,hm⟩:=h;exact⟨Nat.lt_of_lt_of_le h0 k.size,m,by rw[<-hm];exact k.cell (p:=⟨2,0,none⟩) h0 (hS _ (zr _))⟩
def headP (s:ByteArray):ByteArray:=⟨(Lib.cut s.data.toList [59]).1.toArray⟩
def restP (s:ByteArray):ByteArray:=⟨(Lib.cut s.data.toList [59]).2.1.toArray⟩
def cutsP (s:ByteArray):Bool:=(Lib.cut s.data.toList [59]).2.2
theorem Zgc (s:ByteArray)(w:World)(hs:s.size<4294967281)(hg:GlobAt w) :
  Calls Tryz.prog 80 #[.string s,.string ⟨#[59]⟩] w fun e w'=>e = .returned (.tuple #[.string (headP s),.string (restP s),.bool (cutsP s)])/\∃n,w'=w.drewN n:=by
 obtain⟨_,m,hm⟩:=hg;exact Any.strings_Cut { Tryz.laysCut with } s ⟨#[59]⟩ m w hs hm
def parts (s:ByteArray):List ByteArray:=splitB ⟨#[44]⟩ 0 (countB s ⟨#[44]⟩) s
theorem parts_len (s:ByteArray):(parts s).length=countB s ⟨#[44]⟩+1:=splitB_all ⟨#[44]⟩ (by decide) 0 _ s rfl
theorem Zhk (s:ByteArray)(w:World)(hs:s.size<4294967281)(hg:GlobAt w) :
  Calls Tryz.prog 107 #[.string s,.string ⟨#[44]⟩] w fun e w'=>e = .returned (.slice (some ⟨w.heap.size,0,none⟩) (parts s).length (parts s).length)/\w'=w.alloc (.cells ((parts s).map Value.string).toArray 9):=by
 obtain⟨_,m,hm⟩:=hg;rw[parts_len];exact Any.strings_Split { Tryz.laysSplit with } Tryz.laysSplit.i9 s ⟨#[44]⟩ m w hs hm (by decide)
end Go.Proofs.YtnpfaajhgghpgaaGreatDoor
namespace Go.Proofs.YtnpfaajhgghpgaaGreatDoor
open Go.Shelf Go.RowKit Go.Lib Go.Maps
theorem Zcj (t:ByteArray):t.toList.isEmpty=decide (t=⟨#[]⟩):=by
 rw[Lib.toList_data];by_cases h:t=⟨#[]⟩
 ·subst h;rfl
 ·have:t.data.toList≠[]:=fun e=>h (by cases t;simpa using e);rw[List.isEmpty_eq_false_iff.2 this];simp[h]
def evTags (s:ByteArray):List ByteArray:=if restP s=⟨#[]⟩ then [] else parts (restP s)
theorem Ze5 (s:ByteArray):(restP s).size<=s.size:=by
 show (Lib.cut s.data.toList [59]).2.1.toArray.size<=s.data.size;unfold Lib.cut;split <;> simp
theorem Zfs (s:ByteArray)(w:World)(hs:s.size<4294967281)(hg:GlobAt w) :
  Calls Tryz.prog 81 #[.string s] w fun e w'=>∃A c,e = .returned (.slice A (evTags s).length c)/\RowIn w' w'.heap.size 1 A (evTags s).length ((evTags s).map .string)/\(A=none->c=0)/\Below w.heap.size w w':=by
 have HC:=zh (Zgc s w hs hg);go_enter Tryz.func81,Tryz.ntmps81;go_wp2_with fail;refine HC.o.mono ?_;rintro e w1 ⟨rfl,q,rfl⟩;have hle:=Ze5 s;by_cases hr:restP s=⟨#[]⟩
 ·have hb:(restP s).toList.isEmpty=true:=by rw[Zcj];simp[hr]
  have HE:Hid (evTags s = []):=zh (by unfold evTags;rw[if_pos hr]);clear hr HC;go_wp2_with fail;go_ret;rw[HE.o];exact⟨none,0,rfl,RowIn.nil _ _ _ _,fun _=>rfl,⟨rfl,rfl,rfl,zr _,fun _ _=>rfl⟩⟩
 ·have hb:(restP s).toList.isEmpty=false:=by rw[Zcj];simp[hr]
  have HE:Hid (evTags s=parts (restP s)):=zh (by unfold evTags;rw[if_neg hr]);have HS:=zh (Zhk (restP s) (w.drewN q) (by omega) (hg.drewN q));clear hr HC;go_wp2_with fail;refine HS.o.mono ?_;rintro e w2 ⟨rfl,hw2⟩;clear HS;go_wp2_with fail;go_ret;rw[HE.o];subst hw2;refine⟨_,_,rfl,⟨by simp,Or.inr ⟨_,0,rfl,by simp,fun j u hu=>?_⟩⟩,fun h=>(by cases h),?_⟩
  rotate_left
  ·have h1:Below (w.drewN q).heap.size (w.drewN q) ((w.drewN q).alloc (.cells ((parts (restP s)).map Value.string).toArray 9)):=(Below.refl _ _).alloc (zr _) _;exact⟨h1.os,h1.tape,h1.output,h1.size,h1.block⟩
  rw[Nat.zero_add];have:=(Blk.new (w.drewN q) 9 ((parts (restP s)).map Value.string).toArray).cell j;rw[List.getElem?_toArray,hu]at this;exact this
end Go.Proofs.YtnpfaajhgghpgaaGreatDoor
namespace Go.Proofs.YtnpfaajhgghpgaaGreatDoor
open Go.Shelf Go.RowKit Go.Maps
structure Ev where
 src:ByteArray
 num:Int
 tick:Int
 kind:Int
 person:ByteArray
 item:ByteArray
 value:Int
 text:ByteArray
def evC (x:Ev):List Value:=[.string x.src,.int .i64 x.num,.int .i64 x.tick,.int .i64 x.kind,.string x.person,.string x.item,.int .i64 x.value,.string x.text]
theorem Za7 (x:Ev):(evC x).length=8:=rfl
def evA (x:Ev):Value:=.agg #[.string x.src,.int .i64 x.num,.int .i64 x.tick,.int .i64 x.kind,.string x.person,.string x.item,.int .i64 x.value,.string x.text]
theorem Zb1:∀(l:List Ev),∀u∈l.flatMap evC,u.oneCell'=true:=by
 intro l u hu;obtain⟨x,_,hx⟩:=List.mem_flatMap.1 hu;simp[evC]at hx;rcases hx with rfl|rfl|rfl|rfl|rfl|rfl|rfl|rfl <;> rfl
theorem Zdd:(Tryz.prog.info? 59).map (fun i=>(i.zero,i.size,i.bytes))=some (some (.agg #[.string ⟨#[]⟩,.int .i64 0,.int .i64 0,.int .i64 0,.string ⟨#[]⟩,.string ⟨#[]⟩,.int .i64 0,.string ⟨#[]⟩]),8,96):=by kernel_rfl
def EvAt (w:World)(b off:Nat)(x:Ev):Prop:=
 w.cell? ⟨b,off,none⟩=some (.string x.src)/\w.cell? ⟨b,off+1,none⟩=some (.int .i64 x.num)/\w.cell? ⟨b,off+2,none⟩=some (.int .i64 x.tick)/\w.cell? ⟨b,off+3,none⟩=some (.int .i64 x.kind) /\
 w.cell? ⟨b,off+4,none⟩=some (.string x.person)/\w.cell? ⟨b,off+5,none⟩=some (.string x.item)/\w.cell? ⟨b,off+6,none⟩=some (.int .i64 x.value)/\w.cell? ⟨b,off+7,none⟩=some (.string x.text)
theorem EvAt.keep {w w':World}{b off:Nat}{x:Ev}(h:EvAt w b off x)(hk:∀j,w'.cell? ⟨b,j,none⟩=w.cell? ⟨b,j,none⟩):EvAt w' b off x:=by
 obtain⟨h0,h1,h2,h3,h4,h5,h6,h7⟩:=h;exact⟨(hk _).trans h0,(hk _).trans h1,(hk _).trans h2,(hk _).trans h3,(hk _).trans h4,(hk _).trans h5,(hk _).trans h6,(hk _).trans h7⟩
def EvsAt (w:World)(B:Nat)(A:Option Addr)(l:List Ev):Prop:=RowIn w B 8 A l.length (l.flatMap evC)
theorem EvsAt.at {w:World}{B:Nat}{A:Option Addr}{l:List Ev}(h:EvsAt w B A l)(hl:0<l.length):∃b off,A=some ⟨b,off,none⟩/\b<B/\∀i x,l[i]? = some x->EvAt w b (off+i*8) x:=by
 obtain⟨b,off,hA,hb,hc⟩:=RowIn.at h hl;refine⟨b,off,hA,hb,fun i x hx=>?_⟩;have g:=fun j (hj:j<8)=>Zbi evC 8 Za7 l i j x hx hj;have k:=fun j (hj:j<8) u (hu:(evC x)[j]? = some u)=>hc (i*8+j) u ((g j hj).trans hu);refine⟨k 0 (by omega) _ rfl,?_,?_,?_,?_,?_,?_,?_⟩
 ·have:=k 1 (by omega) _ rfl;rw[<-Nat.add_assoc]at this;exact this
 ·have:=k 2 (by omega) _ rfl;rw[<-Nat.add_assoc]at this;exact this
 ·have:=k 3 (by omega) _ rfl;rw[<-Nat.add_assoc]at this;exact this
 ·have:=k 4 (by omega) _ rfl;rw[<-Nat.add_assoc]at this;exact this
 ·have:=k 5 (by omega) _ rfl;rw[<-Nat.add_assoc]at this;exact this
 ·have:=k 6 (by omega) _ rfl;rw[<-Nat.add_assoc]at this;exact this
 ·have:=k 7 (by omega) _ rfl;rw[<-Nat.add_assoc]at this;exact this
theorem EvsAt.below {w w':World}{B:Nat}{A:Option Addr}{l:List Ev}(h:EvsAt w B A l)(hb:Below B w w'):EvsAt w' B A l:=RowIn.below h hb
theorem Zb2 {k:IntKind}{a b:Int}(h:a=b):Ending.returned (.int k a) = .returned (.int k b):=by rw[h]
def cmpI (a b:Int):Int:=if a<b then -1 else if b<a then 1 else 0
def cmpB (a b:ByteArray):Int:=Lib.compareBytes a.data.toList b.data.toList
theorem Zes (a b:Int)(w:World):Calls Tryz.prog 83 #[.int .i64 a,.int .i64 b] w fun e w'=>e = .returned (.int .i64 (cmpI a b))/\w=w':=by
 have n1:(a != a)=false:=by simp
 have n2:(b != b)=false:=by simp
 by_cases h1:a<b
 ·go_enter Tryz.func83,Tryz.ntmps83;go_wp2;go_ret;exact⟨Zb2 (by simp[cmpI,h1]),rfl⟩
 ·by_cases h2:b<a
  ·go_enter Tryz.func83,Tryz.ntmps83;go_wp2;go_ret;exact⟨Zb2 (by unfold cmpI;rw[if_neg (by omega),if_pos h2]),rfl⟩
  ·go_enter Tryz.func83,Tryz.ntmps83;go_wp2;go_ret;exact⟨Zb2 (by unfold cmpI;rw[if_neg (by omega),if_neg (by omega)]),rfl⟩
theorem Zlc (a b:ByteArray)(w:World):Calls Tryz.prog 109 #[.string a,.string b] w fun e w'=>e = .returned (.int .i64 (cmpB a b))/\w=w':=by
 go_enter Tryz.func109,Tryz.ntmps109;go_wp2;rw[run_callFunc_extern Tryz.func130 (by kernel_rfl) (by kernel_rfl) (by kernel_rfl) (e:=Extern.BytealgCompare.compare) (by kernel_rfl),Lib.run_compareString];simp only[Result.andThen];rw[Oper.upon_value];go_wp2;go_ret;exact⟨rfl,rfl⟩
theorem Zjt (a b:ByteArray)(w:World):Calls Tryz.prog 84 #[.string a,.string b] w fun e w'=>e = .returned (.int .i64 (cmpB a b))/\w=w':=by
 have HC:=zh (Zlc a b w);go_enter Tryz.func84,Tryz.ntmps84;go_wp2_with fail;refine HC.o.mono ?_;rintro e w1 ⟨rfl,rfl⟩;go_wp2_with fail;go_ret;exact⟨rfl,rfl⟩
def orL:List Int->Int
 | []=>0
 | z::l=>if z=0 then orL l else z
theorem Zgd:∀(l:List Int) (k:Nat),(∀j z,j<k->l[j]? = some z->z=0)->orL l=orL (l.drop k)
 | [],k,_=>by simp
 | z::l,0,_=>by simp
 | z::l,k+1,h=>by
  have h0:z=0:=h 0 z (by omega) (by simp);have:=Zgd l k (fun j y hj hy=>h (j+1) y (by omega) (by simpa using hy));simp[orL,h0,this]
theorem or_any (g n cap:Nat)(zs:List Int)(w:World)(hn:zs.length=n)(hc:∀j z,zs[j]? = some z->w.cell? ⟨g,j,none⟩=some (.int .i64 z))(hb:n<=1000000) :
  Calls Tryz.prog 82 #[.slice (some ⟨g,0,none⟩) n cap] w fun e w'=>e = .returned (.int .i64 (orL zs))/\w=w':=by
 have HC:=zh hc;have HN:=zh hn;clear hc hn;go_enter Tryz.func82,Tryz.ntmps82;go_wp2;go_loop [8] (fun i=>∃k:Nat,k<=n/\i = .int .i64 k/\Hid (∀j z,j<k->zs[j]? = some z->z=0)) (fun i=>n - (intOf i).toNat)
 case atStart=>exact⟨0,Nat.zero_le _,rfl,fun j z hj=>by omega⟩
 case round=>
  obtain⟨k,hk,rfl,hz⟩:=hrel;by_cases hlt:k<n
  ·obtain⟨z,hzk⟩:∃z,zs[k]? = some z:=⟨zs[k]'(by rw[HN.o];exact hlt),List.getElem?_eq_getElem _⟩
   have c0:=HC.o k z hzk;have HZ:=zh hzk;clear hzk;by_cases h0:z=0
   ·have hb0:(z != 0)=false:=by simp[h0]
    have H0:=zh h0;clear h0;go_wp2;go_round
    case rel=>
     refine⟨k+1,by omega,by go_num,fun j y hj hy=>?_⟩;by_cases e:j=k
     ·subst e;rw[HZ.o]at hy;cases hy;exact H0.o
     ·exact hz.o j y (by omega) hy
    case measure=>simp[intOf];omega
   ·have hb0:(z != 0)=true:=by simpa using h0
    have H0:=zh h0;clear h0;go_wp2;go_ret;refine⟨Zb2 ?_,rfl⟩;rw[Zgd zs k hz.o,List.drop_eq_getElem_cons (by rw[HN.o];exact hlt),orL];have:zs[k]'(by rw[HN.o];exact hlt)=z:=by
     have:=HZ.o;rw[List.getElem?_eq_getElem (by rw[HN.o];exact hlt)]at this;exact Option.some.inj this
    rw[this,if_neg H0.o]
  ·go_wp2;go_ret;refine⟨Zb2 ?_,rfl⟩;rw[Zgd zs k hz.o,List.drop_of_length_le (by rw[HN.o];omega)]
   rfl
def cmpE (x y:Ev):Int:=orL [cmpI x.tick y.tick,cmpB x.src y.src,cmpI x.num y.num]
theorem Zge (x y:Ev)(w:World):Calls Tryz.prog 45 #[evA x,evA y] w fun e w'=>e = .returned (.int .i64 (cmpE x y))/\Below w.heap.size w w':=by
 obtain⟨s1,n1,t1,k1,p1,i1,v1,x1⟩:=x;obtain⟨s2,n2,t2,k2,p2,i2,v2,x2⟩:=y;unfold evA;dsimp only;go_enter Tryz.func45,Tryz.ntmps45;go_wp2_with fail;refine Ze4 [15] (by kernel_rfl) (by kernel_rfl) ?_;simp only[wpText,Nat.sub_zero,List.take_succ_cons,List.take_zero,List.drop_succ_cons,List.drop_zero,Nat.reduceAdd]
 repeat ((with_reducible refine wpStill_step (fun K hK=>?_));go_simp;refine hK _ ?_;clear hK K)
 with_reducible refine wpStill_step (fun K hK=>?_)
 go_simp;refine⟨_,Zbn (Zes _ _ _),hK _ ?_⟩;clear hK K
 repeat ((with_reducible refine wpStill_step (fun K hK=>?_));go_simp;refine hK _ ?_;clear hK K)
 with_reducible refine wpStill_step (fun K hK=>?_)
 go_simp;refine⟨_,Zbn (Zjt _ _ _),hK _ ?_⟩;clear hK K
 repeat ((with_reducible refine wpStill_step (fun K hK=>?_));go_simp;refine hK _ ?_;clear hK K)
 with_reducible refine wpStill_step (fun K hK=>?_)
 go_simp;refine⟨_,Zbn (Zes _ _ _),hK _ ?_⟩;clear hK K
 with_reducible refine wpStill_nil ?_
 go_wp2_with fail
 with_reducible refine wpStill_step (fun K hK=>?_)
 go_simp;refine⟨_,Zbn (or_any _ 3 3 [cmpI t1 t2,cmpB s1 s2,cmpI n1 n2] _ rfl ?hcells (by omega)),hK _ ?_⟩
 case hcells=>
  intro j z hz;rcases j with _|_|_|j
  ·simp at hz;subst hz;simp[go_sem]
  ·simp at hz;subst hz;simp[go_sem]
  ·simp at hz;subst hz;simp[go_sem]
  ·simp at hz
 clear hK K
 repeat ((with_reducible refine wpStill_step (fun K hK=>?_));go_simp;refine hK _ ?_;clear hK K)
 with_reducible refine wpStill_nil ?_
 go_wp2_with fail;go_ret
 have hB:∀o1 o2 o3,Below w.heap.size w (((w.alloc o1).alloc o2).alloc o3).drew:=fun o1 o2 o3=>by
  have:=(((Below.refl w.heap.size w).alloc (zr _) o1).alloc (by simp) o2).alloc (by simp;omega) o3;exact⟨this.os,this.tape,this.output,this.size,this.block⟩
 exact⟨rfl,hB _ _ _⟩
end Go.Proofs.YtnpfaajhgghpgaaGreatDoor

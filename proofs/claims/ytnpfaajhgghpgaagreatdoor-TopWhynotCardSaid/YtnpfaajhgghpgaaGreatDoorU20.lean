/- A part of the joined base. -/
import Derived.Test.YtnpfaajhgghpgaaGreatDoorU19
set_option linter.unusedVariables false
set_option maxHeartbeats 8000000
set_option maxRecDepth 100000
namespace Go.Proofs.YtnpfaajhgghpgaaGreatDoor.Ru
mutual
def dep:Nd->Nat->Nat
 | .atom _,_=>0
 | .no n,_=>dep n 3
 | .row k l,wi=>if k+1<wi then 1+depL l k else depL l k
def depL:List Nd->Nat->Nat
 | [],_=>0
 | n::l,k=>max (dep n (k+1)) (depL l k)
end
theorem Zkn {k:Nat}:∀{l:List Nd} {n:Nd},n∈l->dep n (k+1)<=depL l k
 | m::l,n,h=>by
  rw[depL];rcases List.mem_cons.1 h with rfl|h
  ·exact Nat.le_max_left _ _
  ·exact Nat.le_trans (Zkn h) (Nat.le_max_right _ _)
theorem Zdw (n:Nd){a b:Nat}(h:a<=b):(ownN n a).length<=(ownN n b).length:=by
 cases n with
 | atom a=>simp[ownN]
 | no n=>simp[ownN]
 | row k l=>
  rw[ownN,ownN];split <;> split <;> simp <;> omega
theorem Zsm (n:Nd)(a b:Nat):(ownN n a).length<=(ownN n b).length+2:=by
 cases n with
 | atom a=>simp[ownN]
 | no n=>simp[ownN]
 | row k l=>
  rw[ownN,ownN];split <;> split <;> simp <;> omega
def lenM (k wi:Nat)(l:List Nd):Nat:=(l.map (fun n=>(ownN n wi).length+(sepW k).length)).sum
theorem Zbu (k wi:Nat)(n:Nd)(l:List Nd):lenM k wi (n::l)=(ownN n wi).length+(sepW k).length+lenM k wi l:=by unfold lenM;rw[List.map_cons,List.sum_cons]
theorem Zps (k wi:Nat)(a b:List Nd):lenM k wi (a++b)=lenM k wi a+lenM k wi b:=by unfold lenM;rw[List.map_append,List.sum_append]
theorem Zh5 (k:Nat):∀l:List Nd,(ownM l k).length=lenM k (k+1) l
 | []=>by rw[ownM];rfl
 | n::l=>by rw[ownM,Zbu,List.length_append,List.length_append,Zh5 k l];omega
theorem Zh6 (k:Nat)(l:List Nd)(h:l≠[]):(ownL l k).length+(sepW k).length=lenM k (k+1) l:=by
 cases l with
 | nil=>exact absurd rfl h
 | cons n l=>rw[ownL,Zbu,List.length_append,Zh5];omega
theorem parts_len {k:Nat}{n:Nd}(h:NF n):lenM k (k+1) (parts' k n)<=(ownN n (k+2)).length+(sepW k).length:=by
 have h0:∀n:Nd,lenM k (k+1) [n]<=(ownN n (k+2)).length+(sepW k).length:=fun n=>by
  rw[Zbu];have:=Zdw n (show k+1<=k+2 by omega);show _+0<=_;omega
 cases h with
 | atom h=>exact h0 _
 | no h=>exact h0 _
 | @row k' l hk h hf hl=>
  simp only[parts'];by_cases e:k'=k
  ·rw[if_pos e];subst e;rw[<-Zh6 k' l (by intro e2;rw[e2]at hl;simp at hl),ownN,if_pos (by omega)];simp;omega
  ·rw[if_neg e];exact h0 _
theorem Zf1 {k:Nat}:∀{ns:List Nd},(∀n∈ns,NF n)->lenM k (k+1) (ns.flatMap (parts' k))<=lenM k (k+2) ns
 | [],_=>zr _
 | n::ns,h=>by
  rw[List.flatMap_cons,Zps,Zbu];have h1:=parts_len (k:=k) (h n (by simp));have h2:=Zf1 (k:=k) (ns:=ns) (fun x hx=>h x (by simp[hx]));omega
theorem Zec {k:Nat}{ns:List Nd}(hk:k<2)(hne:ns≠[])(hnf:∀n∈ns,NF n):(ownN (nodeOf k ns) (k+1)).length+(sepW k).length<=lenM k (k+2) ns:=by
 unfold nodeOf;rw[if_pos hk];have h1:=Zf1 (k:=k) hnf;generalize hg:ns.flatMap (parts' k)=l at h1
 match l,h1 with
 | [],h1=>
  exfalso;obtain⟨n,r,rfl⟩:=List.exists_cons_of_ne_nil hne;rw[List.flatMap_cons]at hg;exact Zkf (k:=k) (hnf n (by simp)) (List.append_eq_nil_iff.1 hg).1
 | [n],h1=>
  rw[Zbu]at h1;show (ownN n (k+1)).length+_<=_;have:lenM k (k+1) []=0:=rfl;omega
 | a::b::r,h1=>
  show (ownN (.row k (a::b::r)) (k+1)).length+_<=_;rw[ownN,if_neg (by omega)];have:=Zh6 k (a::b::r) (by simp);omega
theorem Zsn {k:Nat}(hk:k<2):(sepW k).length<=2*(wordOf k).size/\(sepW k).length=(wordOf k).size+2:=by
 rcases (show k=0\/k=1 by omega) with rfl|rfl <;> decide
theorem hd_sz {L:List ByteArray}{c:ByteArray}(h:hd L=c)(hc:c≠⟨#[]⟩):szL L=c.size+szL L.tail:=by
 cases L with
 | nil=>exact absurd h.symm hc
 | cons a r=>
  have h1:a=c:=h;subst h1;exact Zg3 _ _
theorem P.len {k d:Nat}{L L1:List ByteArray}{ok:Bool}{ns:List Nd}(h:P k d L ok L1 ns):ok=true->k<=2->(k<2->lenM k (k+2) ns+2*szL L1<=2*szL L+(sepW k).length)/\(k=2->(ownN (nodeOf 2 ns) 3).length+2*szL L1<=2*szL L):=by
 have up:∀{k d:Nat} {L L1:List ByteArray} {ns:List Nd},k<2->P (k+1) d L true L1 ns->((k+1<2->lenM (k+1) (k+1+2) ns+2*szL L1<=2*szL L+(sepW (k+1)).length)/\(k+1=2->(ownN (nodeOf 2 ns) 3).length+2*szL L1<=2*szL L))->(ownN (nodeOf (k+1) ns) (k+2)).length+2*szL L1<=2*szL L:=fun {k d L L1 ns} hk hp hi=>by
  by_cases h1:k+1<2
  ·have h2:=hi.1 h1;have h3:=Zec h1 (hp.nf rfl).1 (hp.nf rfl).2;rw[show k+1+1=k+2 by omega]at h3;omega
  ·obtain rfl:k=1:=by omega
   exact hi.2 rfl
 induction h with
 | @rlast k d L L1 ok ns hk h hn ih=>
  intro ho h2;subst ho;refine⟨fun _=>?_,fun e=>by omega⟩;have:=up hk h (ih rfl (by omega));rw[Zbu];have h0:lenM k (k+2) []=0:=rfl;omega
 | @rmore k d L L1 L2 ok ns ns2 hk h hw h2 ih ih2=>
  intro ho h2';subst ho;refine⟨fun _=>?_,fun e=>by omega⟩;have h3:=up hk h (ih rfl (by omega));have h4:=(ih2 rfl (by omega)).1 hk;rw[Zbu];have h5:=hd_sz hw (by rcases (show k=0\/k=1 by omega) with rfl|rfl <;> decide);have h6:=(Zsn hk).1;omega
 | @no d L L1 ok ns hw h ih=>
  intro ho h2;subst ho;refine⟨fun e=>by omega,fun _=>?_⟩;have h3:=(ih rfl (by omega)).2 rfl;have h4:=hd_sz hw (by decide);show (ownN (.no (nodeOf 2 ns)) 3).length+_<=_;rw[ownN];have h5:notW.size=3:=rfl;have h6:notW.data.toList.length=3:=rfl;simp only[List.length_append,List.length_singleton];omega
 | @open_ d L L1 ns hw hd' h hc ih=>
  intro ho h2;refine⟨fun e=>by omega,fun _=>?_⟩;have h3:=(ih rfl (by omega)).1 (by omega);have h4:=hd_sz hw (by decide);have h5:=hd_sz hc (by decide);have h6:openW.size=1:=rfl;have h7:closeW.size=1:=rfl;have h8:=Zec (k:=0) (by omega) (h.nf rfl).1 (h.nf rfl).2;have h9:=Zsm (nodeOf 0 ns) 3 (0+1);show (ownN (nodeOf 0 ns) 3).length+_<=_;omega
 | openBad hw hd' h hc ih=>intro ho;cases ho
 | @leaf d L a h=>
  intro ho h2;refine⟨fun e=>by omega,fun _=>?_⟩;have h4:=hd_sz (L:=L) (c:=leafT a) h.2 (by intro e;exact Zsl h.1 (by rw[e]));show (ownN (.atom a) 3).length+_<=_;rw[ownN];have h5:(leafT a).data.toList.length=(leafT a).size:=by simp
  have h6:szL L.tail<=szL L:=by omega
  omega
 | bad h1 h2 h3=>intro ho;cases ho
def Again (n:Nd)(k d:Nat)(T rest:List ByteArray):Prop:=∃ns,P k d (T++rest) true rest ns/\nodeOf k ns=n
def Stop (k:Nat)(rest:List ByteArray):Prop:=∀j,k<=j->j<2->hd rest≠wordOf j
theorem Again.lift {n:Nd}{k d:Nat}{T rest:List ByteArray}(hk:k<2)(h:Again n (k+1) d T rest)(hs:Stop k rest)(hn:∀l,n≠.row k l):Again n k d T rest:=by
 obtain⟨ns,h1,h2⟩:=h;refine⟨_,.rlast hk h1 (Or.inr (hs k (zr _) hk)),?_⟩;rw[h2];unfold nodeOf;rw[if_pos hk];cases n with
 | atom a=>rfl
 | no n=>rfl
 | row k' l=>
  have e:k'≠k:=by rintro rfl;exact hn l rfl
  simp[parts',e,mkRow]
theorem Again.brackets {n:Nd}{d:Nat}{T rest:List ByteArray}(hd:d<40)(h:Again n 0 (d+1) T (closeW::rest)):Again n 2 d (openW::(T++[closeW])) rest:=by
 obtain⟨ns,h1,h2⟩:=h;refine⟨[nodeOf 0 ns],?_,by rw[h2];rfl⟩;have h3:P 0 (d+1) ((openW::(T++[closeW]))++rest).tail true (closeW::rest) ns:=by
  have e:((openW::(T++[closeW]))++rest).tail=T++closeW::rest:=by simp
  rw[e];exact h1
 exact .open_ rfl hd h3 rfl
theorem Zlh (rest:List ByteArray)(k:Nat):Stop k (closeW::rest):=fun j _ h=>by
 show closeW≠wordOf j;rcases (show j=0\/j=1 by omega) with rfl|rfl <;> decide
theorem Zrm {k d:Nat}(hk:k<2):∀(l:List Nd) (n:Nd) (rest:List ByteArray),(∀m∈n::l,∀r,Stop (k+1) r->Again m (k+1) d (tkN m (k+1)) r)->Stop k rest->P k d (tkN n (k+1)++(tkM l k++rest)) true rest (n::l)
 | [],n,rest,h,hs=>by
  rw[tkM,List.nil_append];obtain⟨ns,h1,h2⟩:=h n (by simp) rest (fun j h1 h2=>hs j (by omega) h2);have:=P.rlast hk h1 (Or.inr (hs k (zr _) hk));rw[h2]at this;exact this
 | m::l,n,rest,h,hs=>by
  have h3:=Zrm hk l m rest (fun x hx=>h x (by simp[hx])) hs;rw[tkM]
  have hst:Stop (k+1) (wordOf k::(tkN m (k+1)++tkM l k)++rest):=fun j hj1 hj2=>by
   obtain rfl:k=0:=by omega
   obtain rfl:j=1:=by omega
   show orW≠andW
   decide
  obtain⟨ns,h1,h2⟩:=h n (by simp) _ hst;have h4:P k d (wordOf k::(tkN m (k+1)++tkM l k)++rest).tail true rest (m::l):=by
   have e:(wordOf k::(tkN m (k+1)++tkM l k)++rest).tail=tkN m (k+1)++(tkM l k++rest):=by simp
   rw[e];exact h3
  have:=P.rmore hk h1 rfl h4;rw[h2]at this;exact this
theorem Zh7 {k:Nat}:∀{l:List Nd},(∀n∈l,∀l',n≠.row k l')->l.flatMap (parts' k)=l
 | [],_=>rfl
 | n::l,h=>by
  rw[List.flatMap_cons,Zh7 (fun m hm=>h m (by simp[hm]))];have:parts' k n = [n]:=by
   cases n with
   | atom a=>rfl
   | no n=>rfl
   | row k' l2=>
    have e:k'≠k:=by rintro rfl;exact h _ (by simp) l2 rfl
    simp[parts',e]
  rw[this]
  rfl
theorem Zpt {n:Nd}{k:Nat}(h:∀l,n≠.row k l):tkN n (k+2)=tkN n (k+1):=by
 cases n with
 | atom a=>rw[tkN,tkN]
 | no n=>rw[tkN,tkN]
 | row k' l=>
  have e:k'≠k:=by rintro rfl;exact h l rfl
  rw[tkN,tkN];by_cases h1:k'+1<k+1
  ·rw[if_pos h1,if_pos (by omega)]
  ·rw[if_neg h1,if_neg (by omega)]
theorem Zpu {n:Nd}{k:Nat}(h:∀l,n≠.row k l):dep n (k+2)=dep n (k+1):=by
 cases n with
 | atom a=>rw[dep,dep]
 | no n=>rw[dep,dep]
 | row k' l=>
  have e:k'≠k:=by rintro rfl;exact h l rfl
  rw[dep,dep];by_cases h1:k'+1<k+1
  ·rw[if_pos h1,if_pos (by omega)]
  ·rw[if_neg h1,if_neg (by omega)]
theorem Zpv {n:Nd}(h:NF n):∀(k d:Nat),k<=2->d+dep n (k+1)<=40->∀rest,Stop k rest->Again n k d (tkN n (k+1)) rest:=by
 have low:∀{n:Nd} {d:Nat},(∀l k,n≠.row k l)->(∀wi,tkN n wi=tkN n 3)->(∀rest,Again n 2 d (tkN n 3) rest)->∀k,k<=2->∀rest,Stop k rest->Again n k d (tkN n (k+1)) rest:=fun {n d} hr ht h2 k hk rest hs=>by
  rw[ht];have h1:∀rest,Stop 1 rest->Again n 1 d (tkN n 3) rest:=fun rest hs=>(h2 rest).lift (by omega) hs (fun l=>hr l 1);rcases (show k=0\/k=1\/k=2 by omega) with rfl|rfl|rfl
  ·exact (h1 rest (fun j h1 h2=>hs j (by omega) h2)).lift (by omega) hs (fun l=>hr l 0)
  ·exact h1 rest hs
  ·exact h2 rest
 induction h with
 | @atom a h=>
  intro k d hk hd rest hs;refine low (fun l k e=>by cases e) (fun wi=>by rw[tkN,tkN]) (fun rest=>?_) k hk rest hs;refine⟨[.atom a],?_,rfl⟩;rw[tkN];exact P.leaf (d:=d) (L:=[leafT a]++rest) (a:=a) ⟨h,rfl⟩
 | @no n h ih=>
  intro k d hk hd rest hs;rw[dep]at hd;refine low (fun l k e=>by cases e) (fun wi=>by rw[tkN,tkN]) (fun rest=>?_) k hk rest hs;obtain⟨ns,h1,h2⟩:=ih 2 d (by omega) hd rest (fun j h1 h2=>by omega);rw[tkN];refine⟨[.no (nodeOf 2 ns)],?_,by rw[h2];rfl⟩;exact P.no (L:=notW::tkN n 3++rest) rfl h1
 | @row k' l hk' h hf hl ih=>
  have core:∀(d:Nat),d+depL l k'<=40->∀rest,Stop k' rest->Again (.row k' l) k' d (tkL l k') rest:=fun d hd rest hs=>by
   refine⟨l,?_,?_⟩
   ·cases l with
    | nil=>simp at hl
    | cons n l=>
     rw[tkL,List.append_assoc];refine Zrm hk' l n rest (fun m hm r hr=>?_) hs;have h1:=Zkn (k:=k') hm;have h2:=Zpu (hf m hm);have:=ih m hm (k'+1) d (by omega) (by rw[show k'+1+1=k'+2 by omega,h2];omega) r hr;rw[show k'+1+1=k'+2 by omega,Zpt (hf m hm)]at this;exact this
   ·unfold nodeOf;rw[if_pos hk',Zh7 hf]
    match l,hl with
    | a::b::r,_=>rfl
  have core0:∀(d:Nat),d+depL l k'<=40->∀rest,Stop 0 rest->Again (.row k' l) 0 d (tkL l k') rest:=fun d hd rest hs=>by
   rcases (show k'=0\/k'=1 by omega) with rfl|rfl
   ·exact core d hd rest hs
   ·exact (core d hd rest (fun j h1 h2=>hs j (by omega) h2)).lift (by omega) hs (fun l e=>by injection e with e _;omega)
  have core2:∀(d:Nat),d+(1+depL l k')<=40->∀rest,Again (.row k' l) 2 d (openW::(tkL l k'++[closeW])) rest:=fun d hd rest=>
   (core0 (d+1) (by omega) _ (Zlh rest 0)).brackets (by omega)
  intro k d hk hd rest hs;rw[dep]at hd;rw[tkN];rcases (show k=0\/k=1\/k=2 by omega) with rfl|rfl|rfl
  ·rw[if_neg (by omega)]at hd ⊢;exact core0 d hd rest hs
  ·by_cases h1:k'+1<1+1
   ·rw[if_pos h1]at hd ⊢;obtain rfl:k'=0:=by omega
    exact (core2 d hd rest).lift (by omega) hs (fun l e=>by injection e with e _;omega)
   ·rw[if_neg h1]at hd ⊢;obtain rfl:k'=1:=by omega
    exact core d hd rest hs
  ·rw[if_pos (by omega)]at hd ⊢;exact core2 d hd rest
theorem Zpw:Stop 0 []:=fun j _ h=>by
 show (⟨#[]⟩:ByteArray)≠wordOf j;rcases (show j=0\/j=1 by omega) with rfl|rfl <;> decide
end Go.Proofs.YtnpfaajhgghpgaaGreatDoor.Ru
namespace Go.Proofs.YtnpfaajhgghpgaaGreatDoor.Ru
open Go.RowKit Go.Maps Go.Shelf
theorem Zso (n:Nd)(wi:Nat):(ownB n wi).size=(ownN n wi).length:=by show (ownN n wi).toArray.size=_;simp
theorem Zpx {k:Nat}:∀{l:List Nd} {n:Nd},n∈l->(ownN n (k+1)).length<=(ownL l k).length:=by
 intro l n h;have hM:∀(l:List Nd),n∈l->(ownN n (k+1)).length<=(ownM l k).length:=by
  intro l
  induction l with
  | nil=>intro h;cases h
  | cons m l ih=>
   intro h;rw[ownM];simp only[List.length_append];rcases List.mem_cons.1 h with rfl|h
   ·omega
   ·have:=ih h;omega
 cases l with
 | nil=>cases h
 | cons m l=>
  rw[ownL];simp only[List.length_append];rcases List.mem_cons.1 h with rfl|h
  ·omega
  ·have:=hM l h;omega
end Go.Proofs.YtnpfaajhgghpgaaGreatDoor.Ru
namespace Go.Proofs.YtnpfaajhgghpgaaGreatDoor.Ru
open Go.RowKit Go.Maps Go.Shelf
end Go.Proofs.YtnpfaajhgghpgaaGreatDoor.Ru
namespace Go.Proofs.YtnpfaajhgghpgaaGreatDoor.Ru
open Go.RowKit Go.Maps Go.Shelf
theorem Says.sz {s:ByteArray}{r:Option Nd}{a:Nat}(h:Says s (some r) a):(ruleT r).size<=4000:=by
 cases h with
 | empty h h0=>exact Nat.zero_le _
 | @good ns h h0 hp=>
  have hnf:=hp.nf rfl;have h1:=(hp.len rfl (by omega)).1 (by omega);have h2:=Zec (k:=0) (by omega) hnf.1 hnf.2;have h3:=Zdw (nodeOf 0 ns) (show 0<=0+1 by omega);have h4:szL (tx (toks s))<=s.size:=by
   rw[Zi8];have:=Znb s.data.toList [];unfold tkS;simpa using this
  have h5:szL []=0:=rfl;have h6:(ruleT (some (nodeOf 0 ns))).size=(ownN (nodeOf 0 ns) 0).length:=Zso _ 0;rw[h6];omega
end Go.Proofs.YtnpfaajhgghpgaaGreatDoor.Ru
namespace Go.Proofs.YtnpfaajhgghpgaaGreatDoor.Ru
open Go.Shelf Go.RowKit Go.Maps
theorem _root_.Go.Proofs.YtnpfaajhgghpgaaGreatDoor.Blk.at3 {w:World}{b:Nat}{t:TypeId}{x y z:Value}(h:Blk w b t #[x,y,z]):w.cell? ⟨b,0,none⟩=some x/\w.cell? ⟨b,1,none⟩=some y/\w.cell? ⟨b,2,none⟩=some z/\w.frozen? ⟨b,0,none⟩=false/\w.frozen? ⟨b,1,none⟩=false/\w.frozen? ⟨b,2,none⟩=false:=
 ⟨h.cell 0,h.cell 1,h.cell 2,h.frozen 0,h.frozen 1,h.frozen 2⟩
theorem _root_.Go.Proofs.YtnpfaajhgghpgaaGreatDoor.Blk.under {w w':World}{b:Nat}{t:TypeId}{cs:Array Value}(h:Blk w b t cs)(k:Below w.heap.size w w'):Blk w' b t cs:=(k.block b h.lt).trans h
theorem Zli (s:ByteArray):(parts s).length=Lib.countB s ⟨#[44]⟩+1:=Go.Proofs.YtnpfaajhgghpgaaGreatDoor.parts_len s
theorem sindex_any (w:World)(B:Nat)(A:Option Addr)(l:List ByteArray)(n c:Nat)(s:ByteArray)(hn:l.length=n)(hl:RowIn w B 1 A n (l.map .string))(hb:n<=1000000) :
  Calls Tryz.prog 70 #[.slice A n c,.string s] w fun e w'=>∃z:Int,e = .returned (.int .i64 z)/\(decide (0<=z)=memB s l)/\w=w':=by
 have HN:=zh hn;have HL:=zh hl;clear hn hl;go_enter Tryz.func70,Tryz.ntmps70;go_wp2_with fail;go_loopw [8] (fun i wr=>∃k:Nat,k<=n/\i = .int .i64 k/\Hid (∀j t,j<k->l[j]? = some t->t≠s)/\wr=w) (fun i _=>n - (intOf i).toNat)
 case atStart=>exact⟨0,Nat.zero_le _,rfl,zh (fun j t hj=>by omega),rfl⟩
 case round=>
  obtain⟨k,hk,rfl,hok,rfl⟩:=hrel;by_cases hlt:k<n
  ·obtain⟨t,ht⟩:∃t,l[k]? = some t:=⟨l[k]'(by rw[HN.o];exact hlt),List.getElem?_eq_getElem _⟩
   obtain⟨g,o,rfl,_,hc⟩:=HL.o.at (by omega);have e0:wr.cell? ⟨g,o+k,none⟩=some (.string t):=hc k _ (by simp[ht]);have HTK:=zh ht;have hk8:(k:Int)<(n:Int):=by omega
   have hk9:(0:Int)<=(k:Int):=by omega
   clear ht hc;by_cases he:t=s
   ·have HE:Hid (memB s l=true):=zh ((Zbb _ _).2 (by rw[<-he];exact List.mem_of_getElem? HTK.o));have q1:(s.toList == t.toList)=true:=(Zbw s t).2 he.symm;clear he;go_wp2_with fail;go_ret;exact⟨(k:Int),rfl,by rw[HE.o];exact decide_eq_true hk9,rfl⟩
   ·have HE:=zh he;have q1:(s.toList == t.toList)=false:=Bool.eq_false_iff.2 (fun e=>he ((Zbw s t).1 e).symm);clear he;go_wp2_with fail;go_roundw
    case rel=>
     refine⟨k+1,by omega,by go_num,zh (fun j u hj hu=>?_),by trivial⟩;by_cases e:j=k
     ·subst e;rw[HTK.o]at hu;cases hu;exact HE.o
     ·exact hok.o j u (by omega) hu
    case measure=>simp[intOf];omega
  ·have HF:Hid (memB s l=false):=zh (by
    cases hm:memB s l
    ·rfl
    ·obtain⟨j,hj⟩:=List.mem_iff_getElem?.1 ((Zbb _ _).1 hm);have:=(List.getElem?_eq_some_iff.1 hj).1;rw[HN.o]at this;exact absurd rfl (hok.o j s (by omega) hj))
   go_wp2_with fail;go_ret;exact⟨-1,rfl,by rw[HF.o];rfl,rfl⟩
theorem contains_any (w:World)(B:Nat)(A:Option Addr)(l:List ByteArray)(n c:Nat)(s:ByteArray)(hn:l.length=n)(hl:RowIn w B 1 A n (l.map .string))(hb:n<=1000000) :
  Calls Tryz.prog 29 #[.slice A n c,.string s] w fun e w'=>e = .returned (.bool (memB s l))/\w=w':=by
 have HI:=zh (sindex_any w B A l n c s hn hl hb);clear hn hl;go_enter Tryz.func29,Tryz.ntmps29;go_wp2_with fail;refine HI.o.mono ?_;rintro e w2 ⟨z,rfl,hz,rfl⟩;have HZ:=zh hz;clear hz HI;go_wp2_with fail;go_ret;exact⟨Zab HZ.o,rfl⟩
end Go.Proofs.YtnpfaajhgghpgaaGreatDoor.Ru
namespace Go.Proofs.YtnpfaajhgghpgaaGreatDoor.Ru
open Go.RowKit Go.Maps Go.Shelf
structure Fz where
 name:ByteArray
 maker:ByteArray
 tags:ByteArray
 stock:Int
 price:Int
 born:Int
 listed:Bool
 now:Int
 age:Int
 fans:Int
 follows:Bool
 done:Bool
abbrev FAC:TypeId:=97
def fzA (z:Fz):Array Value:=#[.string z.name,.string z.maker,.string z.tags,.int .i64 z.stock,.int .i64 z.price,.int .i64 z.born,.bool z.listed,.int .i64 z.now,.int .i64 z.age,.int .i64 z.fans,.bool z.follows,.bool z.done]
def fzT (z:Fz):List ByteArray:=evTags ((⟨#[59]⟩:ByteArray)++z.tags)
def fzX (z:Fz):Fx:=⟨z.maker,fzT z,z.price,z.stock,z.age,z.fans,z.done,z.follows⟩
def ROf (b:Bool)(w:World)(e:Ending)(w':World):Prop:=e = .returned (.bool b)/\Below w.heap.size w w'
structure FzAt (w:World) (p:Nat) (z:Fz):Prop where
 c1:w.cell? ⟨p,1,none⟩=some (.string z.maker)
 c2:w.cell? ⟨p,2,none⟩=some (.string z.tags)
 c3:w.cell? ⟨p,3,none⟩=some (.int .i64 z.stock)
 c4:w.cell? ⟨p,4,none⟩=some (.int .i64 z.price)
 c8:w.cell? ⟨p,8,none⟩=some (.int .i64 z.age)
 c9:w.cell? ⟨p,9,none⟩=some (.int .i64 z.fans)
 c10:w.cell? ⟨p,10,none⟩=some (.bool z.follows)
 c11:w.cell? ⟨p,11,none⟩=some (.bool z.done)
theorem fz_at {w:World}{p:Nat}{z:Fz}(h:Blk w p FAC (fzA z)):FzAt w p z:=⟨h.cell 1,h.cell 2,h.cell 3,h.cell 4,h.cell 8,h.cell 9,h.cell 10,h.cell 11⟩
theorem Zed {w:World}{p:Nat}{z:Fz}(h:Blk w p FAC (fzA z)):(loadVar FAC ⟨p,0,none⟩).run Tryz.prog w = .ok (.agg (fzA z)) w:=by
 have c0:=h.cell 0;have c1:=h.cell 1;have c2:=h.cell 2;have c3:=h.cell 3;have c4:=h.cell 4;have c5:=h.cell 5;have c6:=h.cell 6;have c7:=h.cell 7;have c8:=h.cell 8;have c9:=h.cell 9;have c10:=h.cell 10;have c11:=h.cell 11;simp[fzA]at c0 c1 c2 c3 c4 c5 c6 c7 c8 c9 c10 c11;unfold fzA loadVar;go_simp
theorem Znc (z:Fz)(k:Nat)(less:Bool)(n:Nat)(hk:k<4)(w:World):Calls Tryz.prog 225 #[.agg #[.string (whatW k),.bool less,.int .i64 n],.agg (fzA z)] w (ROf (holdsL (fzX z) (.num k less n)) w):=by
 show Calls Tryz.prog 225 #[.agg #[.string (whatW k),.bool less,.int .i64 n],.agg #[.string z.name,.string z.maker,.string z.tags,.int .i64 z.stock,.int .i64 z.price,.int .i64 z.born,.bool z.listed,.int .i64 z.now,.int .i64 z.age,.int .i64 z.fans,.bool z.follows,.bool z.done]] w (ROf (holdsL (fzX z) (.num k less n)) w)
 have key:∀x:Int,(fzX z).val k=x->Hid ((less=true->(x<n->holdsL (fzX z) (.num k less n)=true)/\(¬x<n->holdsL (fzX z) (.num k less n)=false))/\(less=false->(n<x->holdsL (fzX z) (.num k less n)=true)/\(¬n<x->holdsL (fzX z) (.num k less n)=false))):=fun x hx=>zh (by
  have e:holdsL (fzX z) (.num k less n)=if less then decide (x<n) else decide ((n:Int)<x):=by rw[<-hx];rfl
  rw[e];exact⟨fun h=>by subst h;exact⟨fun h=>decide_eq_true h,fun h=>decide_eq_false h⟩,fun h=>by subst h;exact⟨fun h=>decide_eq_true h,fun h=>decide_eq_false h⟩⟩)
 obtain⟨w1,hw1⟩:=zG (w.alloc (.cells #[.string (whatW k),.bool less,.int .i64 n] 249));obtain⟨w2,hw2⟩:=zG (w1.alloc (.cells #[.string z.name,.string z.maker,.string z.tags,.int .i64 z.stock,.int .i64 z.price,.int .i64 z.born,.bool z.listed,.int .i64 z.now,.int .i64 z.age,.int .i64 z.fans,.bool z.follows,.bool z.done] FAC));have z1:w1.heap.size=w.heap.size+1:=by rw[<-hw1];simp
 have k1:Below w.heap.size w w1:=by rw[<-hw1];exact (Below.refl _ _).alloc (zr _) _
 have k2:Below w1.heap.size w1 w2:=by rw[<-hw2];exact (Below.refl _ _).alloc (zr _) _
 have HK:Hid (Below w.heap.size w w2/\w2.heap.size=w.heap.size+2):=zh ⟨k1.trans (k2.mono (by omega)),by rw[<-hw2];simp[z1]⟩
 have HBX:Hid (Blk w2 w.heap.size 249 #[.string (whatW k),.bool less,.int .i64 n]):=zh (by
  have:Blk w1 w.heap.size 249 #[.string (whatW k),.bool less,.int .i64 n]:=by rw[<-hw1];exact Blk.new _ _ _
  exact this.under k2)
 have HBF:Hid (Blk w2 (w.heap.size+1) FAC (fzA z)):=zh (by
  have:Blk w2 w1.heap.size FAC (fzA z):=by rw[<-hw2];exact Blk.new _ _ _
  rwa [z1]at this)
 clear k1 k2;obtain⟨n0,n1,n2,_,_,_⟩:=HBX.o.at3;obtain⟨f1,f2,f3,f4,f8,f9,f10,f11⟩:=fz_at HBF.o;obtain⟨b,hb⟩:=zG (holdsL (fzX z) (.num k less n));rw[hb]at key ⊢;clear hb;rcases (show k=0\/k=1\/k=2\/k=3 by omega) with rfl|rfl|rfl|rfl
 ·have HX:=key z.price rfl;clear key;have e0:whatW 0=⟨#[112,114,105,99,101]⟩:=rfl;rw[e0]at n0 hw1 ⊢;have n0':w2.cell? ⟨w.heap.size,0,none⟩=some (.string ⟨#[112,114,105,99,101]⟩):=n0;clear e0 n0;cases less
  ·by_cases h:(n:Int)<z.price
   ·have HR:Hid (b=true):=zh ((HX.o.2 rfl).1 h);go_enter Tryz.func225,Tryz.ntmps225;go_wp2_with fail;go_ret;exact⟨Zab HR.o.symm,HK.o.1⟩
   ·have HR:Hid (b=false):=zh ((HX.o.2 rfl).2 h);go_enter Tryz.func225,Tryz.ntmps225;go_wp2_with fail;go_ret;exact⟨Zab HR.o.symm,HK.o.1⟩
  ·by_cases h:z.price<(n:Int)
   ·have HR:Hid (b=true):=zh ((HX.o.1 rfl).1 h);go_enter Tryz.func225,Tryz.ntmps225;go_wp2_with fail;go_ret;exact⟨Zab HR.o.symm,HK.o.1⟩
   ·have HR:Hid (b=false):=zh ((HX.o.1 rfl).2 h);go_enter Tryz.func225,Tryz.ntmps225;go_wp2_with fail;go_ret;exact⟨Zab HR.o.symm,HK.o.1⟩
 ·have HX:=key z.stock rfl;clear key;have e0:whatW 1=⟨#[115,116,111,99,107]⟩:=rfl;rw[e0]at n0 hw1 ⊢;have n0':w2.cell? ⟨w.heap.size,0,none⟩=some (.string ⟨#[115,116,111,99,107]⟩):=n0;clear e0 n0;cases less
  ·by_cases h:(n:Int)<z.stock
   ·have HR:Hid (b=true):=zh ((HX.o.2 rfl).1 h);go_enter Tryz.func225,Tryz.ntmps225;go_wp2_with fail;go_ret;exact⟨Zab HR.o.symm,HK.o.1⟩
   ·have HR:Hid (b=false):=zh ((HX.o.2 rfl).2 h);go_enter Tryz.func225,Tryz.ntmps225;go_wp2_with fail;go_ret;exact⟨Zab HR.o.symm,HK.o.1⟩
  ·by_cases h:z.stock<(n:Int)
   ·have HR:Hid (b=true):=zh ((HX.o.1 rfl).1 h);go_enter Tryz.func225,Tryz.ntmps225;go_wp2_with fail;go_ret;exact⟨Zab HR.o.symm,HK.o.1⟩
   ·have HR:Hid (b=false):=zh ((HX.o.1 rfl).2 h);go_enter Tryz.func225,Tryz.ntmps225;go_wp2_with fail;go_ret;exact⟨Zab HR.o.symm,HK.o.1⟩
 ·have HX:=key z.age rfl;clear key;have e0:whatW 2=⟨#[97,103,101]⟩:=rfl;rw[e0]at n0 hw1 ⊢;have n0':w2.cell? ⟨w.heap.size,0,none⟩=some (.string ⟨#[97,103,101]⟩):=n0;clear e0 n0;cases less
  ·by_cases h:(n:Int)<z.age
   ·have HR:Hid (b=true):=zh ((HX.o.2 rfl).1 h);go_enter Tryz.func225,Tryz.ntmps225;go_wp2_with fail;go_ret;exact⟨Zab HR.o.symm,HK.o.1⟩
   ·have HR:Hid (b=false):=zh ((HX.o.2 rfl).2 h);go_enter Tryz.func225,Tryz.ntmps225;go_wp2_with fail;go_ret;exact⟨Zab HR.o.symm,HK.o.1⟩
  ·by_cases h:z.age<(n:Int)
   ·have HR:Hid (b=true):=zh ((HX.o.1 rfl).1 h);go_enter Tryz.func225,Tryz.ntmps225;go_wp2_with fail;go_ret;exact⟨Zab HR.o.symm,HK.o.1⟩
   ·have HR:Hid (b=false):=zh ((HX.o.1 rfl).2 h);go_enter Tryz.func225,Tryz.ntmps225;go_wp2_with fail;go_ret;exact⟨Zab HR.o.symm,HK.o.1⟩
 ·have HX:=key z.fans rfl;clear key;have e0:whatW 3=⟨#[102,97,110,115]⟩:=rfl;rw[e0]at n0 hw1 ⊢;have n0':w2.cell? ⟨w.heap.size,0,none⟩=some (.string ⟨#[102,97,110,115]⟩):=n0;clear e0 n0;cases less
  ·by_cases h:(n:Int)<z.fans
   ·have HR:Hid (b=true):=zh ((HX.o.2 rfl).1 h);go_enter Tryz.func225,Tryz.ntmps225;go_wp2_with fail;go_ret;exact⟨Zab HR.o.symm,HK.o.1⟩
   ·have HR:Hid (b=false):=zh ((HX.o.2 rfl).2 h);go_enter Tryz.func225,Tryz.ntmps225;go_wp2_with fail;go_ret;exact⟨Zab HR.o.symm,HK.o.1⟩
  ·by_cases h:z.fans<(n:Int)
   ·have HR:Hid (b=true):=zh ((HX.o.1 rfl).1 h);go_enter Tryz.func225,Tryz.ntmps225;go_wp2_with fail;go_ret;exact⟨Zab HR.o.symm,HK.o.1⟩
   ·have HR:Hid (b=false):=zh ((HX.o.1 rfl).2 h);go_enter Tryz.func225,Tryz.ntmps225;go_wp2_with fail;go_ret;exact⟨Zab HR.o.symm,HK.o.1⟩
theorem Zlj (z:Fz)(w:World):Calls Tryz.prog 223 #[.agg #[.string doneW],.agg (fzA z)] w (ROf (holdsL (fzX z) .done) w):=by
 show Calls Tryz.prog 223 #[.agg #[.string ⟨#[100,111,110,101]⟩],.agg #[.string z.name,.string z.maker,.string z.tags,.int .i64 z.stock,.int .i64 z.price,.int .i64 z.born,.bool z.listed,.int .i64 z.now,.int .i64 z.age,.int .i64 z.fans,.bool z.follows,.bool z.done]] w (ROf z.done w);obtain⟨w1,hw1⟩:=zG (w.alloc (.cells #[.string ⟨#[100,111,110,101]⟩] 245));obtain⟨w2,hw2⟩:=zG (w1.alloc (.cells #[.string z.name,.string z.maker,.string z.tags,.int .i64 z.stock,.int .i64 z.price,.int .i64 z.born,.bool z.listed,.int .i64 z.now,.int .i64 z.age,.int .i64 z.fans,.bool z.follows,.bool z.done] FAC));have z1:w1.heap.size=w.heap.size+1:=by rw[<-hw1];simp
 have k1:Below w.heap.size w w1:=by rw[<-hw1];exact (Below.refl _ _).alloc (zr _) _
 have k2:Below w1.heap.size w1 w2:=by rw[<-hw2];exact (Below.refl _ _).alloc (zr _) _
 have HK:Hid (Below w.heap.size w w2/\w2.heap.size=w.heap.size+2):=zh ⟨k1.trans (k2.mono (by omega)),by rw[<-hw2];simp[z1]⟩
 have HBX:Hid (Blk w2 w.heap.size 245 #[.string ⟨#[100,111,110,101]⟩]):=zh (by
  have:Blk w1 w.heap.size 245 #[.string ⟨#[100,111,110,101]⟩]:=by rw[<-hw1];exact Blk.new _ _ _
  exact this.under k2)
 have HBF:Hid (Blk w2 (w.heap.size+1) FAC (fzA z)):=zh (by
  have:Blk w2 w1.heap.size FAC (fzA z):=by rw[<-hw2];exact Blk.new _ _ _
  rwa [z1]at this)
 clear k1 k2;have n0:w2.cell? ⟨w.heap.size,0,none⟩=some (.string ⟨#[100,111,110,101]⟩):=HBX.o.cell 0;obtain⟨f1,f2,f3,f4,f8,f9,f10,f11⟩:=fz_at HBF.o;go_enter Tryz.func223,Tryz.ntmps223;go_wp2_with fail;go_ret;exact⟨rfl,HK.o.1⟩
theorem Zg4 (z:Fz)(w:World):Calls Tryz.prog 223 #[.agg #[.string followsW],.agg (fzA z)] w (ROf (holdsL (fzX z) .follows) w):=by
 show Calls Tryz.prog 223 #[.agg #[.string ⟨#[102,111,108,108,111,119,115]⟩],.agg #[.string z.name,.string z.maker,.string z.tags,.int .i64 z.stock,.int .i64 z.price,.int .i64 z.born,.bool z.listed,.int .i64 z.now,.int .i64 z.age,.int .i64 z.fans,.bool z.follows,.bool z.done]] w (ROf z.follows w);obtain⟨w1,hw1⟩:=zG (w.alloc (.cells #[.string ⟨#[102,111,108,108,111,119,115]⟩] 245));obtain⟨w2,hw2⟩:=zG (w1.alloc (.cells #[.string z.name,.string z.maker,.string z.tags,.int .i64 z.stock,.int .i64 z.price,.int .i64 z.born,.bool z.listed,.int .i64 z.now,.int .i64 z.age,.int .i64 z.fans,.bool z.follows,.bool z.done] FAC));have z1:w1.heap.size=w.heap.size+1:=by rw[<-hw1];simp
 have k1:Below w.heap.size w w1:=by rw[<-hw1];exact (Below.refl _ _).alloc (zr _) _
 have k2:Below w1.heap.size w1 w2:=by rw[<-hw2];exact (Below.refl _ _).alloc (zr _) _
 have HK:Hid (Below w.heap.size w w2/\w2.heap.size=w.heap.size+2):=zh ⟨k1.trans (k2.mono (by omega)),by rw[<-hw2];simp[z1]⟩
 have HBX:Hid (Blk w2 w.heap.size 245 #[.string ⟨#[102,111,108,108,111,119,115]⟩]):=zh (by
  have:Blk w1 w.heap.size 245 #[.string ⟨#[102,111,108,108,111,119,115]⟩]:=by rw[<-hw1];exact Blk.new _ _ _
  exact this.under k2)
 have HBF:Hid (Blk w2 (w.heap.size+1) FAC (fzA z)):=zh (by
  have:Blk w2 w1.heap.size FAC (fzA z):=by rw[<-hw2];exact Blk.new _ _ _
  rwa [z1]at this)
 clear k1 k2;have n0:w2.cell? ⟨w.heap.size,0,none⟩=some (.string ⟨#[102,111,108,108,111,119,115]⟩):=HBX.o.cell 0;obtain⟨f1,f2,f3,f4,f8,f9,f10,f11⟩:=fz_at HBF.o;go_enter Tryz.func223,Tryz.ntmps223;go_wp2_with fail;go_ret;exact⟨rfl,HK.o.1⟩
theorem Zi9 (z:Fz)(x:ByteArray)(w:World):Calls Tryz.prog 224 #[.agg #[.string makerW,.string x],.agg (fzA z)] w (ROf (holdsL (fzX z) (.maker x)) w):=by
 show Calls Tryz.prog 224 #[.agg #[.string ⟨#[109,97,107,101,114]⟩,.string x],.agg #[.string z.name,.string z.maker,.string z.tags,.int .i64 z.stock,.int .i64 z.price,.int .i64 z.born,.bool z.listed,.int .i64 z.now,.int .i64 z.age,.int .i64 z.fans,.bool z.follows,.bool z.done]] w (ROf (holdsL (fzX z) (.maker x)) w);obtain⟨w1,hw1⟩:=zG (w.alloc (.cells #[.string ⟨#[109,97,107,101,114]⟩,.string x] 247));obtain⟨w2,hw2⟩:=zG (w1.alloc (.cells #[.string z.name,.string z.maker,.string z.tags,.int .i64 z.stock,.int .i64 z.price,.int .i64 z.born,.bool z.listed,.int .i64 z.now,.int .i64 z.age,.int .i64 z.fans,.bool z.follows,.bool z.done] FAC));have z1:w1.heap.size=w.heap.size+1:=by rw[<-hw1];simp
 have k1:Below w.heap.size w w1:=by rw[<-hw1];exact (Below.refl _ _).alloc (zr _) _
 have k2:Below w1.heap.size w1 w2:=by rw[<-hw2];exact (Below.refl _ _).alloc (zr _) _
 have HK:Hid (Below w.heap.size w w2/\w2.heap.size=w.heap.size+2):=zh ⟨k1.trans (k2.mono (by omega)),by rw[<-hw2];simp[z1]⟩
 have HBX:Hid (Blk w2 w.heap.size 247 #[.string ⟨#[109,97,107,101,114]⟩,.string x]):=zh (by
  have:Blk w1 w.heap.size 247 #[.string ⟨#[109,97,107,101,114]⟩,.string x]:=by rw[<-hw1];exact Blk.new _ _ _
  exact this.under k2)
 have HBF:Hid (Blk w2 (w.heap.size+1) FAC (fzA z)):=zh (by
  have:Blk w2 w1.heap.size FAC (fzA z):=by rw[<-hw2];exact Blk.new _ _ _
  rwa [z1]at this)
 clear k1 k2;obtain⟨n0,n1⟩:=zC2 HBX.o;obtain⟨f1,f2,f3,f4,f8,f9,f10,f11⟩:=fz_at HBF.o;by_cases h:z.maker=x
 ·have HR:Hid (holdsL (fzX z) (.maker x)=true):=zh (decide_eq_true h);have q1:(z.maker.toList == x.toList)=true:=(Zbw _ _).2 h;rw[HR.o];clear h;go_enter Tryz.func224,Tryz.ntmps224;go_wp2_with fail;go_ret;exact⟨Zab (by first|rfl|exact q1),HK.o.1⟩
 ·have HR:Hid (holdsL (fzX z) (.maker x)=false):=zh (decide_eq_false h);have q1:(z.maker.toList == x.toList)=false:=Bool.eq_false_iff.2 (fun e=>h ((Zbw _ _).1 e));rw[HR.o];clear h;go_enter Tryz.func224,Tryz.ntmps224;go_wp2_with fail;go_ret;exact⟨Zab (by first|rfl|exact q1),HK.o.1⟩
theorem Zf2 (s:ByteArray):(parts s).length<=s.size+1:=by
 rw[Zli];have:=Lib.countB_le ⟨#[44]⟩ (by decide) _ s (zr _);omega
theorem Znd (z:Fz)(x:ByteArray)(w:World)(hz:z.tags.size<=900000)(hg:GlobAt w):Calls Tryz.prog 224 #[.agg #[.string tagW,.string x],.agg (fzA z)] w (ROf (holdsL (fzX z) (.tag x)) w):=by
 show Calls Tryz.prog 224 #[.agg #[.string ⟨#[116,97,103]⟩,.string x],.agg #[.string z.name,.string z.maker,.string z.tags,.int .i64 z.stock,.int .i64 z.price,.int .i64 z.born,.bool z.listed,.int .i64 z.now,.int .i64 z.age,.int .i64 z.fans,.bool z.follows,.bool z.done]] w (ROf (holdsL (fzX z) (.tag x)) w)
 have HM:Hid (holdsL (fzX z) (.tag x)=memB x (fzT z)):=zh (by
  by_cases h:x∈fzT z
  ·rw[(Zbb _ _).2 h]
   classical exact decide_eq_true h
  ·rw[show memB x (fzT z)=false from Bool.eq_false_iff.2 (fun e=>h ((Zbb _ _).1 e))]
   classical exact decide_eq_false h)
 rw[HM.o];obtain⟨w1,hw1⟩:=zG (w.alloc (.cells #[.string ⟨#[116,97,103]⟩,.string x] 247));obtain⟨w2,hw2⟩:=zG (w1.alloc (.cells #[.string z.name,.string z.maker,.string z.tags,.int .i64 z.stock,.int .i64 z.price,.int .i64 z.born,.bool z.listed,.int .i64 z.now,.int .i64 z.age,.int .i64 z.fans,.bool z.follows,.bool z.done] FAC));have z1:w1.heap.size=w.heap.size+1:=by rw[<-hw1];simp
 have k1:Below w.heap.size w w1:=by rw[<-hw1];exact (Below.refl _ _).alloc (zr _) _
 have k2:Below w1.heap.size w1 w2:=by rw[<-hw2];exact (Below.refl _ _).alloc (zr _) _
 have HK:Hid (Below w.heap.size w w2/\w2.heap.size=w.heap.size+2):=zh ⟨k1.trans (k2.mono (by omega)),by rw[<-hw2];simp[z1]⟩
 have HBX:Hid (Blk w2 w.heap.size 247 #[.string ⟨#[116,97,103]⟩,.string x]):=zh (by
  have:Blk w1 w.heap.size 247 #[.string ⟨#[116,97,103]⟩,.string x]:=by rw[<-hw1];exact Blk.new _ _ _
  exact this.under k2)
 have HBF:Hid (Blk w2 (w.heap.size+1) FAC (fzA z)):=zh (by
  have:Blk w2 w1.heap.size FAC (fzA z):=by rw[<-hw2];exact Blk.new _ _ _
  rwa [z1]at this)
 clear k1 k2;have n0:w2.cell? ⟨w.heap.size,0,none⟩=some (.string ⟨#[116,97,103]⟩):=HBX.o.cell 0;obtain⟨f1,f2,f3,f4,f8,f9,f10,f11⟩:=fz_at HBF.o;have hsz:((⟨#[59]⟩:ByteArray)++z.tags).size=1+z.tags.size:=by simp[ByteArray.size_append];rfl
 have HSZ:=zh hsz;have HG2:Hid (GlobAt w2):=zh (hg.keep HK.o.1 (zr _));have HTG:=zh (Zfs ((⟨#[59]⟩:ByteArray)++z.tags) w2.drew (by show _<_;omega) HG2.o)
 have HTL:Hid ((fzT z).length<=1000000):=zh (by
  unfold fzT evTags;split
  ·exact Nat.zero_le _
  ·have h1:=Zf2 (restP ((⟨#[59]⟩:ByteArray)++z.tags));have h2:=Ze5 ((⟨#[59]⟩:ByteArray)++z.tags);omega)
 clear hsz;go_enter Tryz.func224,Tryz.ntmps224;go_upto_region 3 with fail;clear hw1 hw2 z1;have HSC:Hid (∀W,Below w2.heap.size w2 W->W.cell? ⟨w.heap.size+1,2,none⟩=some (.string z.tags)/\W.cell? ⟨w.heap.size,1,none⟩=some (.string x)):=zh (fun W hW=>⟨(HBF.o.under hW).cell 2,(HBX.o.under hW).cell 1⟩);have HS0:Hid (Below w2.heap.size w2 w2.drew):=zh (below_drew (Below.refl _ _));have hz1:z.tags.size<=900000:=hz;refine Zar (fun V=>Below w2.heap.size w2 V) [(0,false),(1,false),(2,false),(3,false),(5,false),(6,false),(4,true),(7,true),(8,false)] (by kernel_rfl) (by kernel_rfl) HS0.o ?_;simp only[planL,xq4,xq5]
 repeat ((first|(refine Zaf _ (by rfl) (fun W hW=>by (obtain⟨q2,q7⟩:=HSC.o W hW;go_simp;try (first|with_reducible rfl|rw[if_neg (by omega)]))) ?_)|(refine Zac (by rfl) ?_));simp only[Act.put,xq1,xq2,xq3])
 refine Zae ?_;go_wp2_with fail;refine HTG.o.mono ?_;rintro e w3 ⟨A,c,rfl,hrow,hnc,hb3⟩;have HB3:Hid (Below w2.heap.size w2 w3):=zh (HS0.o.trans (hb3.mono (zr _)));have HCO:=zh (contains_any w3 w3.heap.size A (fzT z) (fzT z).length c x rfl hrow HTL.o);obtain⟨q,hq⟩:=zG ((evTags ((⟨#[59]⟩:ByteArray)++z.tags)).length);have hq2:(fzT z).length=q:=hq;rw[hq2]at HCO;rw[hq];clear hrow hnc hb3 HTG hq hq2;go_wp2_with fail;refine⟨HB3.o,?_⟩
 repeat ((first|(refine Zaf _ (by rfl) (fun W hW=>by (obtain⟨q2,q7⟩:=HSC.o W hW;go_simp;try (first|with_reducible rfl|rw[if_neg (by omega)]))) ?_)|(refine Zac (by rfl) ?_));simp only[Act.put,xq1,xq2,xq3])
 refine Zae ?_;go_wp2_with fail;refine HCO.o.mono ?_;rintro e w4 ⟨rfl,rfl⟩;go_wp2_with fail;refine⟨HB3.o,?_⟩
 repeat ((first|(refine Zaf _ (by rfl) (fun W hW=>by (obtain⟨q2,q7⟩:=HSC.o W hW;go_simp;try (first|with_reducible rfl|rw[if_neg (by omega)]))) ?_)|(refine Zac (by rfl) ?_));simp only[Act.put,xq1,xq2,xq3])
 refine Zah ?_;go_wp2_with fail;go_ret;exact⟨rfl,HK.o.1.trans (HB3.o.mono HK.o.1.size)⟩
end Go.Proofs.YtnpfaajhgghpgaaGreatDoor.Ru

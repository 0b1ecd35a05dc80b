/- A part of the joined base. -/
import Derived.Test.YtnpfaajhgghpgaaGreatDoorU06
import Derived.Lib.ItoaLen
import Derived.Lib.AtoiTie
import Derived.Lib.AtoiAllCases
set_option linter.unusedVariables false
set_option maxHeartbeats 8000000
set_option maxRecDepth 100000
namespace Go.Proofs.YtnpfaajhgghpgaaGreatDoor
open Ct (It St atP takesB catB)
def crE (es:List Ev):List Ev:=es.filter fun e=>decide (e.kind<11)
theorem Zgs (es:List Ev):(rowsW es).map (·.e)=crE es:=by
 refine snocI (p:=fun es=>(rowsW es).map (·.e)=crE es) rfl (fun l a ih=>?_) es;rw[Zb9];unfold rwStep crE;rw[List.filter_append];by_cases h:a.kind<11
 ·rw[if_pos h,List.map_append,ih];simp[crE,h]
 ·rw[if_neg h,ih];simp[crE,h]
theorem Zh0 {β:Type}(f:β->Ev->β)(b:β)(es:List Ev):(rowsW es).foldl (fun acc r=>f acc r.e) b=(crE es).foldl f b:=by
 rw[<-Zgs,List.foldl_map]
theorem Zeu (es:List Ev)(p i:ByteArray):doneB (rowsW es) p i=(crE es).any fun e=>decide (e.person=p/\e.item=i)&&decide (e.kind=2\/e.kind=3):=by
 rw[<-Zgs,List.any_map];rfl
theorem Zsf (es:List Ev)(p i:ByteArray):likB (rowsW es) p i=(crE es).any fun e=>decide (e.person=p/\e.item=i)&&decide (0<worthP e):=by
 rw[<-Zgs,List.any_map];rfl
def wordE (f:Ev->Bool)(a b:Int)(l:List Ev):Option Bool:=l.foldl (fun acc e=>if f e&&decide (e.kind=a\/e.kind=b) then some (decide (e.kind=a)) else acc) none
theorem Zgt (es:List Ev)(f:Ev->Bool)(a b:Int):wordO (fun r=>f r.e) a b (rowsW es)=wordE f a b (crE es):=
 Zh0 (fun acc e=>if f e&&decide (e.kind=a\/e.kind=b) then some (decide (e.kind=a)) else acc) none es
end Go.Proofs.YtnpfaajhgghpgaaGreatDoor
namespace Go.Proofs.YtnpfaajhgghpgaaGreatDoor.Ru
abbrev Tk:=ByteArray×Nat
def isD (b:UInt8):Bool:=b == 32 || b == 40 || b == 41
def byteAt (s:ByteArray)(i:Nat):UInt8:=s.data.toList.getD i 0
def wordT (s:ByteArray)(i fr:Nat):List Tk:=if fr<i then [(s.extract fr i,fr)] else []
def signT (s:ByteArray)(i:Nat):List Tk:=if byteAt s i=32 then [] else [(s.extract i (i+1),i)]
def tokF (s:ByteArray):Nat->Nat->Nat->List Tk
 | 0,i,fr=>wordT s i fr
 | f+1,i,fr=>if isD (byteAt s i) then wordT s i fr++signT s i++tokF s f (i+1) (i+1) else tokF s f (i+1) fr
def tokR (s:ByteArray)(i fr:Nat):List Tk:=tokF s (s.size - i) i fr
def toks (s:ByteArray):List Tk:=tokR s 0 0
theorem Zgu {s:ByteArray}{i fr:Nat}(h:s.size<=i):tokR s i fr=wordT s i fr:=by
 unfold tokR;rw[show s.size - i=0 from by omega]
 rfl
theorem Zkd {s:ByteArray}{i fr:Nat}(h:i<s.size)(hd:isD (byteAt s i)=true):tokR s i fr=wordT s i fr++signT s i++tokR s (i+1) (i+1):=by
 unfold tokR;rw[show s.size - i=(s.size - (i+1))+1 from by omega,tokF,if_pos hd]
theorem Ztu {s:ByteArray}{i fr:Nat}(h:i<s.size)(hd:isD (byteAt s i)=false):tokR s i fr=tokR s (i+1) fr:=by
 unfold tokR;rw[show s.size - i=(s.size - (i+1))+1 from by omega,tokF,if_neg (by simp[hd])]
theorem Zcb (s:ByteArray)(i:Nat):wordT s i i = []:=if_neg (Nat.lt_irrefl _)
theorem Zke {s:ByteArray}:∀(n i fr:Nat),i+n<=s.size->(∀q,i<=q->q<i+n->isD (byteAt s q)=false)->tokR s i fr=tokR s (i+n) fr
 | 0,i,fr,_,_=>rfl
 | n+1,i,fr,h1,h2=>by
  rw[Ztu (by omega) (h2 i (zr _) (by omega)),Zke n (i+1) fr (by omega) (fun q hq hq2=>h2 q (by omega) (by omega))];congr 1;omega
theorem Zh1 {s:ByteArray}{i j:Nat}(hij:i<j)(hj:j<=s.size)(h:∀q,i<=q->q<j->isD (byteAt s q)=false)(he:j=s.size\/isD (byteAt s j)=true):tokR s i i=(s.extract i j,i)::tokR s j j:=by
 have h1:=Zke (j - i) i i (by omega) (fun q hq hq2=>h q hq (by omega));rw[show i+(j - i)=j from by omega]at h1;rw[h1];by_cases hs:j=s.size
 ·rw[Zgu (by omega),Zgu (by omega),Zcb];unfold wordT;rw[if_pos hij]
 ·rcases he with he|he
  ·exact absurd he hs
  ·rw[Zkd (by omega) he,Zkd (by omega) he,Zcb];unfold wordT;rw[if_pos hij]
   rfl
inductive Leaf where
 | follows
 | done
 | tag (x:ByteArray)
 | maker (x:ByteArray)
 | num (k:Nat) (less:Bool) (n:Nat)
inductive Nd where
 | atom (a:Leaf)
 | no (n:Nd)
 | row (k:Nat) (l:List Nd)
def followsW:ByteArray:=⟨#[102,111,108,108,111,119,115]⟩
def doneW:ByteArray:=⟨#[100,111,110,101]⟩
def tagW:ByteArray:=⟨#[116,97,103]⟩
def makerW:ByteArray:=⟨#[109,97,107,101,114]⟩
def whatW (k:Nat):ByteArray:=if k=0 then ⟨#[112,114,105,99,101]⟩ else if k=1 then ⟨#[115,116,111,99,107]⟩ else if k=2 then ⟨#[97,103,101]⟩ else ⟨#[102,97,110,115]⟩
def signW (less:Bool):ByteArray:=if less then ⟨#[60]⟩ else ⟨#[62]⟩
def colonW:ByteArray:=⟨#[58]⟩
def digW (n:Nat):ByteArray:=⟨(Lib.decDigits n).toArray⟩
def orW:ByteArray:=⟨#[111,114]⟩
def andW:ByteArray:=⟨#[97,110,100]⟩
def notW:ByteArray:=⟨#[110,111,116]⟩
def openW:ByteArray:=⟨#[40]⟩
def closeW:ByteArray:=⟨#[41]⟩
def wordOf (k:Nat):ByteArray:=if k=0 then orW else andW
def leafT:Leaf->ByteArray
 | .follows=>followsW
 | .done=>doneW
 | .tag x=>tagW++colonW++x
 | .maker x=>makerW++colonW++x
 | .num k less n=>whatW k++signW less++digW n
def LeafOk:Leaf->Prop
 | .tag x=>nameB x=true
 | .maker x=>nameB x=true
 | .num k _ n=>k<4/\n<=1099511627776
 | _=>True
def IsLeaf (w:ByteArray)(a:Leaf):Prop:=LeafOk a/\w=leafT a
theorem Za5 {a b:ByteArray}(h:a.data.toList=b.data.toList):a=b:=by
 cases a;cases b;exact congrArg _ (Array.toList_inj.1 h)
theorem Za6 (a b:ByteArray):(a++b).data.toList=a.data.toList++b.data.toList:=by rw[ByteArray.data_append,Array.toList_append]
theorem Zaw (k:Nat):(whatW k).data.toList = [112,114,105,99,101]/\k=0\/(whatW k).data.toList = [115,116,111,99,107]/\k=1\/(whatW k).data.toList = [97,103,101]/\k=2\/(whatW k).data.toList = [102,97,110,115]/\3<=k:=by
 unfold whatW;by_cases h0:k=0
 ·rw[if_pos h0];exact Or.inl ⟨rfl,h0⟩
 ·rw[if_neg h0];by_cases h1:k=1
  ·rw[if_pos h1];exact Or.inr (Or.inl ⟨rfl,h1⟩)
  ·rw[if_neg h1];by_cases h2:k=2
   ·rw[if_pos h2];exact Or.inr (Or.inr (Or.inl ⟨rfl,h2⟩))
   ·rw[if_neg h2];exact Or.inr (Or.inr (Or.inr ⟨rfl,by omega⟩))
theorem Zd7 (b:Bool):(signW b).data.toList = [60]/\b=true\/(signW b).data.toList = [62]/\b=false:=by
 cases b
 ·exact Or.inr ⟨rfl,rfl⟩
 ·exact Or.inl ⟨rfl,rfl⟩
theorem Zcl (b:UInt8)(d:Nat)(hb:Lib.digitVal b=some d):∀(l:List UInt8) (acc n:Nat),Lib.decFrom acc l=some n->Lib.decFrom acc (l++[b])=some (n*10+d)
 | [],acc,n,h=>by
  simp only[Lib.decFrom,Option.some.injEq]at h;subst h;simp[Lib.decFrom,hb]
 | c::l,acc,n,h=>by
  simp only[Lib.decFrom]at h;simp only[List.cons_append,Lib.decFrom];split at h
  ·rename_i d' hd
   exact Zcl b d hb l _ _ h
  ·cases h
theorem digV' {k:Nat}(h:k<10):Lib.digitVal (UInt8.ofNat (48+k))=some k:=by
 unfold Lib.digitVal;rw[UInt8.toNat_ofNat_of_lt' (by show _<256;omega),if_pos (by omega)];congr 1;omega
theorem Zgv (n:Nat):Lib.decFrom 0 (Lib.decDigits n)=some n:=by
 induction n using Nat.strongRecOn with
 | _ n ih=>
  rw[Lib.decDigits];split
  ·rename_i h
   have:=Zcl _ n (digV' h) [] 0 0 rfl;simpa using this
  ·rw[Zcl _ (n % 10) (digV' (by omega)) _ _ _ (ih (n / 10) (by omega))];congr 1;omega
theorem Zd8 {m n:Nat}(h:Lib.decDigits m=Lib.decDigits n):m=n:=by
 have h1:=Zgv m;rw[h,Zgv n]at h1;injection h1 with h1;exact h1.symm
theorem Zm2 {a b:Leaf}(ha:LeafOk a)(hb:LeafOk b)(h:leafT a=leafT b):a=b:=by
 have h2:(leafT a).data.toList=(leafT b).data.toList:=by rw[h]
 cases a with
 | follows=>
  cases b with
  | follows=>rfl
  | done=>simp[leafT,followsW,doneW]at h2
  | tag x=>simp[leafT,followsW,tagW]at h2
  | maker x=>simp[leafT,followsW,makerW]at h2
  | num k less n=>
   simp only[leafT,Za6]at h2;rcases Zaw k with ⟨e,_⟩|⟨e,_⟩|⟨e,_⟩|⟨e,_⟩ <;> rw[e]at h2 <;> simp[followsW]at h2
 | done=>
  cases b with
  | follows=>simp[leafT,followsW,doneW]at h2
  | done=>rfl
  | tag x=>simp[leafT,doneW,tagW]at h2
  | maker x=>simp[leafT,doneW,makerW]at h2
  | num k less n=>
   simp only[leafT,Za6]at h2;rcases Zaw k with ⟨e,_⟩|⟨e,_⟩|⟨e,_⟩|⟨e,_⟩ <;> rw[e]at h2 <;> simp[doneW]at h2
 | tag x=>
  cases b with
  | follows=>simp[leafT,followsW,tagW]at h2
  | done=>simp[leafT,doneW,tagW]at h2
  | tag y=>
   simp only[leafT,Za6,List.append_cancel_left_eq]at h2;rw[Za5 h2]
  | maker y=>simp[leafT,tagW,makerW]at h2
  | num k less n=>
   simp only[leafT,Za6]at h2;rcases Zaw k with ⟨e,_⟩|⟨e,_⟩|⟨e,_⟩|⟨e,_⟩ <;> rw[e]at h2 <;> simp[tagW]at h2
 | maker x=>
  cases b with
  | follows=>simp[leafT,followsW,makerW]at h2
  | done=>simp[leafT,doneW,makerW]at h2
  | tag y=>simp[leafT,tagW,makerW]at h2
  | maker y=>
   simp only[leafT,Za6,List.append_cancel_left_eq]at h2;rw[Za5 h2]
  | num k less n=>
   simp only[leafT,Za6]at h2;rcases Zaw k with ⟨e,_⟩|⟨e,_⟩|⟨e,_⟩|⟨e,_⟩ <;> rw[e]at h2 <;> simp[makerW]at h2
 | num k less n=>
  cases b with
  | follows=>
   simp only[leafT,Za6]at h2;rcases Zaw k with ⟨e,_⟩|⟨e,_⟩|⟨e,_⟩|⟨e,_⟩ <;> rw[e]at h2 <;> simp[followsW]at h2
  | done=>
   simp only[leafT,Za6]at h2;rcases Zaw k with ⟨e,_⟩|⟨e,_⟩|⟨e,_⟩|⟨e,_⟩ <;> rw[e]at h2 <;> simp[doneW]at h2
  | tag y=>
   simp only[leafT,Za6]at h2;rcases Zaw k with ⟨e,_⟩|⟨e,_⟩|⟨e,_⟩|⟨e,_⟩ <;> rw[e]at h2 <;> simp[tagW]at h2
  | maker y=>
   simp only[leafT,Za6]at h2;rcases Zaw k with ⟨e,_⟩|⟨e,_⟩|⟨e,_⟩|⟨e,_⟩ <;> rw[e]at h2 <;> simp[makerW]at h2
  | num k' less' n'=>
   have hk:=ha.1;have hk':=hb.1;simp only[leafT,Za6]at h2;have hd:∀m,(digW m).data.toList=Lib.decDigits m:=fun m=>by simp[digW]
   rw[hd,hd]at h2
   rcases Zd7 less with ⟨s1,rfl⟩|⟨s1,rfl⟩ <;> rcases Zd7 less' with ⟨s2,rfl⟩|⟨s2,rfl⟩ <;> simp only[s1,s2]at h2 <;>
    rcases Zaw k with ⟨e,q⟩|⟨e,q⟩|⟨e,q⟩|⟨e,q⟩ <;> rcases Zaw k' with ⟨e',q'⟩|⟨e',q'⟩|⟨e',q'⟩|⟨e',q'⟩ <;> simp only[e,e']at h2 <;>
    first
     | (simp at h2;done)
     | (simp only[List.cons_append,List.nil_append,List.cons.injEq,true_and]at h2
        rw[Zd8 h2,show k=k' from by omega])
theorem IsLeaf.one {w:ByteArray}{a b:Leaf}(h:IsLeaf w a)(k:IsLeaf w b):a=b:=Zm2 h.1 k.1 (h.2.symm.trans k.2)
theorem Zcm {w:ByteArray}(hw:w=notW\/w=openW\/w=closeW\/w=orW\/w=andW\/w=⟨#[]⟩)(a:Leaf):¬IsLeaf w a:=by
 rintro ⟨_,h⟩;have h2:w.data.toList=(leafT a).data.toList:=by rw[h]
 cases a with
 | follows=>rcases hw with rfl|rfl|rfl|rfl|rfl|rfl <;> simp[leafT,followsW,notW,openW,closeW,orW,andW]at h2
 | done=>rcases hw with rfl|rfl|rfl|rfl|rfl|rfl <;> simp[leafT,doneW,notW,openW,closeW,orW,andW]at h2
 | tag x=>rcases hw with rfl|rfl|rfl|rfl|rfl|rfl <;> simp[leafT,tagW,notW,openW,closeW,orW,andW]at h2
 | maker x=>rcases hw with rfl|rfl|rfl|rfl|rfl|rfl <;> simp[leafT,makerW,notW,openW,closeW,orW,andW]at h2
 | num k less n=>
  simp only[leafT,Za6]at h2;rcases Zaw k with ⟨e,_⟩|⟨e,_⟩|⟨e,_⟩|⟨e,_⟩ <;> rw[e]at h2 <;> rcases hw with rfl|rfl|rfl|rfl|rfl|rfl <;> simp[notW,openW,closeW,orW,andW]at h2
def hd (L:List ByteArray):ByteArray:=L.headD ⟨#[]⟩
def parts' (k:Nat):Nd->List Nd
 | .row k' l=>if k'=k then l else [.row k' l]
 | n=>[n]
def mkRow (k:Nat):List Nd->Nd
 | [n]=>n
 | l=>.row k l
def nodeOf (k:Nat)(ns:List Nd):Nd:=if k<2 then mkRow k (ns.flatMap (parts' k)) else ns.headD (.atom .done)
inductive P:Nat->Nat->List ByteArray->Bool->List ByteArray->List Nd->Prop
 | rlast {k d:Nat} {L L1:List ByteArray} {ok:Bool} {ns:List Nd} (hk:k<2) (h:P (k+1) d L ok L1 ns) (hn:ok=false\/hd L1≠wordOf k):P k d L ok L1 [nodeOf (k+1) ns]
 | rmore {k d:Nat} {L L1 L2:List ByteArray} {ok:Bool} {ns ns2:List Nd} (hk:k<2) (h:P (k+1) d L true L1 ns) (hw:hd L1=wordOf k) (h2:P k d L1.tail ok L2 ns2):P k d L ok L2 (nodeOf (k+1) ns::ns2)
 | no {d:Nat} {L L1:List ByteArray} {ok:Bool} {ns:List Nd} (hw:hd L=notW) (h:P 2 d L.tail ok L1 ns):P 2 d L ok L1 [.no (nodeOf 2 ns)]
 | open_ {d:Nat} {L L1:List ByteArray} {ns:List Nd} (hw:hd L=openW) (hd':d<40) (h:P 0 (d+1) L.tail true L1 ns) (hc:hd L1=closeW):P 2 d L true L1.tail [nodeOf 0 ns]
 | openBad {d:Nat} {L L1:List ByteArray} {ok:Bool} {ns:List Nd} (hw:hd L=openW) (hd':d<40) (h:P 0 (d+1) L.tail ok L1 ns) (hc:ok=false\/hd L1≠closeW):P 2 d L false L1 []
 | leaf {d:Nat} {L:List ByteArray} {a:Leaf} (h:IsLeaf (hd L) a):P 2 d L true L.tail [.atom a]
 | bad {d:Nat} {L:List ByteArray} (h1:hd L≠notW) (h2:¬(hd L=openW/\d<40)) (h3:∀a,¬IsLeaf (hd L) a):P 2 d L false L []
def sepW (k:Nat):List UInt8:=32::(wordOf k).data.toList++[32]
mutual
def ownN:Nd->Nat->List UInt8
 | .atom a,_=>(leafT a).data.toList
 | .no n,_=>notW.data.toList++[32]++ownN n 3
 | .row k l,wi=>if k+1<wi then 40::ownL l k++[41] else ownL l k
def ownL:List Nd->Nat->List UInt8
 | [],_=>[]
 | n::l,k=>ownN n (k+1)++ownM l k
def ownM:List Nd->Nat->List UInt8
 | [],_=>[]
 | n::l,k=>sepW k++ownN n (k+1)++ownM l k
end
structure Fx where
 maker:ByteArray
 tags:List ByteArray
 price:Int
 stock:Int
 age:Int
 fans:Int
 done:Bool
 follows:Bool
def Fx.val (f:Fx)(k:Nat):Int:=if k=0 then f.price else if k=1 then f.stock else if k=2 then f.age else f.fans
open Classical in
noncomputable def holdsL (f:Fx):Leaf->Bool
 | .follows=>f.follows
 | .done=>f.done
 | .tag x=>decide (x∈f.tags)
 | .maker x=>decide (f.maker=x)
 | .num k less n=>if less then decide (f.val k<n) else decide ((n:Int)<f.val k)
mutual
noncomputable def holdsN (f:Fx):Nd->Bool
 | .atom a=>holdsL f a
 | .no n=>!holdsN f n
 | .row k l=>if k=0 then someN f l else !someNot f l
noncomputable def someN (f:Fx):List Nd->Bool
 | []=>false
 | n::l=>holdsN f n || someN f l
noncomputable def someNot (f:Fx):List Nd->Bool
 | []=>false
 | n::l=>!holdsN f n || someNot f l
end
inductive NF:Nd->Prop
 | atom {a:Leaf} (h:LeafOk a):NF (.atom a)
 | no {n:Nd} (h:NF n):NF (.no n)
 | row {k:Nat} {l:List Nd} (hk:k<2) (h:∀n∈l,NF n) (hf:∀n∈l,∀l',n≠.row k l') (hl:2<=l.length):NF (.row k l)
theorem Zkf {k:Nat}{n:Nd}(h:NF n):parts' k n≠[]:=by
 cases h with
 | atom h=>simp[parts']
 | no h=>simp[parts']
 | @row k' l hk h hf hl=>
  simp only[parts'];by_cases e:k'=k
  ·rw[if_pos e];intro e2;rw[e2]at hl;simp at hl
  ·rw[if_neg e];simp
theorem Zpk {k:Nat}{n:Nd}(h:NF n):∀m∈parts' k n,NF m/\∀l',m≠.row k l':=by
 cases h with
 | atom h=>
  intro m hm;simp only[parts',List.mem_singleton]at hm;subst hm;exact⟨.atom h,fun l' e=>by cases e⟩
 | no h=>
  intro m hm;simp only[parts',List.mem_singleton]at hm;subst hm;exact⟨.no h,fun l' e=>by cases e⟩
 | @row k' l hk h hf hl=>
  intro m hm;simp only[parts']at hm;by_cases e:k'=k
  ·rw[if_pos e]at hm;subst e;exact⟨h m hm,hf m hm⟩
  ·rw[if_neg e,List.mem_singleton]at hm;subst hm;refine⟨.row hk h hf hl,fun l' e2=>?_⟩;injection e2 with e3;exact e e3
theorem Zcv {k:Nat}{ns:List Nd}(hne:ns≠[])(h:∀n∈ns,NF n):NF (nodeOf k ns):=by
 unfold nodeOf;split
 ·rename_i hk
  have h1:∀m∈ns.flatMap (parts' k),NF m/\∀l',m≠.row k l':=fun m hm=>by
   obtain⟨n,hn,hm2⟩:=List.mem_flatMap.1 hm;exact Zpk (h n hn) m hm2
  have h2:ns.flatMap (parts' k)≠[]:=by
   obtain⟨n,r,rfl⟩:=List.exists_cons_of_ne_nil hne;rw[List.flatMap_cons];intro e;exact Zkf (k:=k) (h n (by simp)) (List.append_eq_nil_iff.1 e).1
  cases hl:ns.flatMap (parts' k) with
  | nil=>exact absurd hl h2
  | cons a r=>
   rw[hl]at h1;cases r with
   | nil=>exact (h1 a (by simp)).1
   | cons b r=>exact .row hk (fun m hm=>(h1 m hm).1) (fun m hm=>(h1 m hm).2) (by simp)
 ·obtain⟨n,r,rfl⟩:=List.exists_cons_of_ne_nil hne;exact h n (by simp)
theorem P.nf {k d:Nat}{L L1:List ByteArray}{ok:Bool}{ns:List Nd}(h:P k d L ok L1 ns):ok=true->ns≠[]/\∀n∈ns,NF n:=by
 induction h with
 | rlast hk h hn ih=>
  intro ht;obtain⟨h1,h2⟩:=ih ht;exact⟨by simp,fun n hn=>by rw[List.mem_singleton]at hn;subst hn;exact Zcv h1 h2⟩
 | rmore hk h hw h2 ih ih2=>
  intro ht;obtain⟨h3,h4⟩:=ih rfl;obtain⟨h5,h6⟩:=ih2 ht;refine⟨by simp,fun n hn=>?_⟩;rcases List.mem_cons.1 hn with rfl|hn
  ·exact Zcv h3 h4
  ·exact h6 n hn
 | no hw h ih=>
  intro ht;obtain⟨h3,h4⟩:=ih ht;exact⟨by simp,fun n hn=>by rw[List.mem_singleton]at hn;subst hn;exact .no (Zcv h3 h4)⟩
 | open_ hw hd' h hc ih=>
  intro ht;obtain⟨h3,h4⟩:=ih rfl;exact⟨by simp,fun n hn=>by rw[List.mem_singleton]at hn;subst hn;exact Zcv h3 h4⟩
 | openBad hw hd' h hc ih=>intro ht;cases ht
 | leaf h=>exact fun _=>⟨by simp,fun n hn=>by rw[List.mem_singleton]at hn;subst hn;exact .atom h.1⟩
 | bad h1 h2 h3=>intro ht;cases ht
structure RowSt (k d:Nat) (L:List ByteArray) (ok:Bool) (L1:List ByteArray) (ms:List Nd):Prop where
 last:ok=false\/hd L1≠wordOf k->P k d L ok L1 ms
 more:ok=true->hd L1=wordOf k->∀ok2 L2 ns2,P k d L1.tail ok2 L2 ns2->P k d L ok2 L2 (ms++ns2)
theorem RowSt.start {k d:Nat}{L L1:List ByteArray}{ok:Bool}{ns:List Nd}(hk:k<2)(h:P (k+1) d L ok L1 ns):RowSt k d L ok L1 [nodeOf (k+1) ns]:=
 ⟨fun hn=>.rlast hk h hn,fun ho hw ok2 L2 ns2 h2=>by subst ho;exact .rmore hk h hw h2⟩
theorem RowSt.next {k d:Nat}{L L1 L2:List ByteArray}{ok:Bool}{ms ns:List Nd}(hk:k<2)(h:RowSt k d L true L1 ms)(hw:hd L1=wordOf k)(h2:P (k+1) d L1.tail ok L2 ns):RowSt k d L ok L2 (ms++[nodeOf (k+1) ns]):=
 ⟨fun hn=>h.more rfl hw _ _ _ (.rlast hk h2 hn),fun ho hw2 ok3 L3 ns3 h3=>by
  subst ho;have:=h.more rfl hw _ _ _ (.rmore hk h2 hw2 h3)
  rwa [List.append_assoc]⟩
end Go.Proofs.YtnpfaajhgghpgaaGreatDoor.Ru
namespace Go.Proofs.YtnpfaajhgghpgaaGreatDoor
inductive PlT where
 | done:PlT
 | take (i:Nat) (r:PlT):PlT
 | turn (i:Nat) (r:PlT):PlT
 | fork (i:Nat) (r:PlT) (j:Nat) (r':PlT):PlT
inductive PlO where
 | done:PlO
 | take (o:Oper) (r:PlO):PlO
 | turn (o:Oper) (r:PlO):PlO
 | fork (o:Oper) (r:PlO) (o':Oper) (r':PlO):PlO
section
variable {P : Program} {ops : Array Oper} {md : Region.Mode} {Q : Exit -> Act -> World -> Prop} {S : World -> Prop}
def planTB (md:Region.Mode)(ops:Array Oper):Nat->PlT->Array Bool->Bool
 | 0,.done,listed=>decide (Region.ready md ops listed = [])
 | n+1,.turn i r,listed=>decide (Region.ready md ops listed = [i])&&planTB md ops n r (listed.setIfInBounds i true)
 | n+1,.take i r,listed=>(Region.ready md ops listed).contains i&&Region.free md ops listed i&&planTB md ops n r (listed.setIfInBounds i true)
 | n+1,.fork i r j r',listed=>decide (Region.ready md ops listed = [i,j])&&planTB md ops n r (listed.setIfInBounds i true)&&planTB md ops n r' (listed.setIfInBounds j true)
 | _,_,_=>false
def planTL (l:List Oper):PlT->PlO
 | .done=>.done
 | .take i r=>match l[i]? with|some o=>.take o (planTL l r)|none=>.done
 | .turn i r=>match l[i]? with|some o=>.turn o (planTL l r)|none=>.done
 | .fork i r j r'=>match l[i]? with|some o=>(match l[j]? with|some o'=>.fork o (planTL l r) o' (planTL l r')|none=>.done)|none=>.done
def wpPlanT (P:Program)(ops:Array Oper)(Q:Exit->Act->World->Prop)(S:World->Prop):PlO->Act->World->Prop
 | .done,a,w=>Q .normal a w
 | .turn o r,a,w=>wpList P ops (Exit.then (fun a' w'=>S w'/\wpPlanT P ops Q S r a' w') Q) [o] a w
 | .take o r,a,w=>∃v,YieldsIf P ops S o v a/\wpPlanT P ops Q S r (a.put o.dst v) w
 | .fork o r o' r',a,w=>wpList P ops (Exit.then (fun a' w'=>S w'/\wpPlanT P ops Q S r a' w') Q) [o] a w/\wpList P ops (Exit.then (fun a' w'=>S w'/\wpPlanT P ops Q S r' a' w') Q) [o'] a w
theorem Zal {o:Oper}{r:PlO}{a:Act}{w:World}(v:Value)(hw:Region.wanted o (yielded ops a.tmps)=true)(hy:∀W,S W->(execOp a.eval o).run P W = .ok (.value v) W)(h:wpPlanT P ops Q S r (a.put o.dst v) w):wpPlanT P ops Q S (.take o r) a w:=
 ⟨v,Or.inl ⟨hw,hy⟩,h⟩
theorem Zap {o:Oper}{r:PlO}{a:Act}{w:World}(h:wpList P ops (Exit.then (fun a' w'=>S w'/\wpPlanT P ops Q S r a' w') Q) [o] a w):wpPlanT P ops Q S (.turn o r) a w:=h
theorem Zcc {o o':Oper}{r r':PlO}{a:Act}{w:World}(h:wpList P ops (Exit.then (fun a' w'=>S w'/\wpPlanT P ops Q S r a' w') Q) [o] a w)(h':wpList P ops (Exit.then (fun a' w'=>S w'/\wpPlanT P ops Q S r' a' w') Q) [o'] a w):wpPlanT P ops Q S (.fork o r o' r') a w:=⟨h,h'⟩
theorem Zbf {a:Act}{w:World}(h:Q .normal a w):wpPlanT P ops (NoPanic Q) S .done a w:=NoPanic.normal h
theorem Zcw {l:List Oper}(hl:ops=l.toArray)(hsel:Region.noSelect ops=true)(hQ:∀c (a:Act) d v w,Q (.panic c) (a.put d v) w->Q (.panic c) a w):∀(n:Nat) (pl:PlT) (listed:Array Bool) (a:Act) (w:World),planTB md ops n pl listed=true->S w ->
  wpPlanT P ops Q S (planTL l pl) a w->wpAnyH P md ops Q S n listed a w
 | 0,.done,listed,a,w,hB,hS,h=>⟨of_decide_eq_true hB,h⟩
 | 0,.take _ _,listed,a,w,hB,hS,h=>by simp[planTB]at hB
 | 0,.turn _ _,listed,a,w,hB,hS,h=>by simp[planTB]at hB
 | 0,.fork _ _ _ _,listed,a,w,hB,hS,h=>by simp[planTB]at hB
 | n+1,.done,listed,a,w,hB,hS,h=>by simp[planTB]at hB
 | n+1,.turn i r,listed,a,w,hB,hS,h=>by
  simp only[planTB,Bool.and_eq_true,decide_eq_true_eq]at hB;obtain⟨hr,hB'⟩:=hB;have hi:i∈Region.ready md ops listed:=by rw[hr];simp
  obtain⟨_,o,ho,_⟩:=mem_ready.1 hi;have hlo:l[i]? = some o:=by rw[hl]at ho;simpa using ho
  simp only[planTL,hlo]at h;refine wpAnyH_all hr (by simp) (fun j hj=>?_);obtain rfl:j=i:=by simpa using hj
  have hw:wpOp P ops Q j (fun a' w'=>S w'/\wpPlanT P ops Q S (planTL l r) a' w') a w:=by
   unfold wpOp;rw[ho];exact h
  exact wpOp_mono (fun a' w' h'=>⟨h'.1,Zcw hl hsel hQ n r _ a' w' hB' h'.1 h'.2⟩) hw
 | n+1,.fork i r k r',listed,a,w,hB,hS,h=>by
  simp only[planTB,Bool.and_eq_true,decide_eq_true_eq]at hB;obtain⟨⟨hr,hB'⟩,hB2⟩:=hB;have hi:i∈Region.ready md ops listed:=by rw[hr];simp
  have hk:k∈Region.ready md ops listed:=by rw[hr];simp
  obtain⟨_,o,ho,_⟩:=mem_ready.1 hi;obtain⟨_,o',ho',_⟩:=mem_ready.1 hk;have hlo:l[i]? = some o:=by rw[hl]at ho;simpa using ho
  have hlo':l[k]? = some o':=by rw[hl]at ho';simpa using ho'
  simp only[planTL,hlo,hlo']at h;refine wpAnyH_all hr (by simp) (fun j hj=>?_);have hj2:j=i\/j=k:=by simpa using hj
  rcases hj2 with rfl|rfl
  ·have hw:wpOp P ops Q j (fun a' w'=>S w'/\wpPlanT P ops Q S (planTL l r) a' w') a w:=by
    unfold wpOp;rw[ho];exact h.1
   exact wpOp_mono (fun a' w' h'=>⟨h'.1,Zcw hl hsel hQ n r _ a' w' hB' h'.1 h'.2⟩) hw
  ·have hw:wpOp P ops Q j (fun a' w'=>S w'/\wpPlanT P ops Q S (planTL l r') a' w') a w:=by
    unfold wpOp;rw[ho'];exact h.2
   exact wpOp_mono (fun a' w' h'=>⟨h'.1,Zcw hl hsel hQ n r' _ a' w' hB2 h'.1 h'.2⟩) hw
 | n+1,.take i r,listed,a,w,hB,hS,h=>by
  simp only[planTB,Bool.and_eq_true]at hB;obtain⟨⟨hr,hf⟩,hB'⟩:=hB;have hi:i∈Region.ready md ops listed:=by simpa using hr
  obtain⟨_,o,ho,_⟩:=mem_ready.1 hi;have hlo:l[i]? = some o:=by rw[hl]at ho;simpa using ho
  simp only[planTL,hlo]at h;obtain⟨v,hy,h'⟩:=h;exact wpAnyH_take ho hsel hf hr (fun c a w=>hQ c a _ _ w) hy hS (Zcw hl hsel hQ n r _ _ w hB' hS h')
theorem Zgw {id:Nat}{a:Act}{w:World}{l:List Oper}(S:World->Prop)(pl:PlT)(hm:P.follows .mixedOrders=true)
  (hB:(Region.noSelect l.toArray&&planTB .any l.toArray l.length pl (Array.replicate l.length false))=true)
  (hS:S w.drew) (h:wpPlanT P l.toArray (NoPanic Q) S (planTL l pl) a w.drew):(Code.region id l.toArray true).wp P Q a w:=by
 simp only[Bool.and_eq_true]at hB;obtain⟨h1,h3⟩:=hB;refine wp_region_noPanic ?_;refine wp_region_held (S:=S) hm ?_;have:=Zcw (md:=.any) rfl h1 (fun c a d v w h=>h) l.length pl _ a w.drew h3 hS h;simpa using this
end
end Go.Proofs.YtnpfaajhgghpgaaGreatDoor

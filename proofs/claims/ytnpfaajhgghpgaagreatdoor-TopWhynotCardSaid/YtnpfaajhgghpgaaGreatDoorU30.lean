/- A part of the joined base. -/
import Derived.Test.YtnpfaajhgghpgaaGreatDoorU29
import Derived.Test.YtnpfaajhgghpgaaGreatDoorRows
import Derived.Deep.Slices
import Derived.Deep.Fields
import Derived.ChangeSame
import Derived.ProofKit
import Derived.SizedLaws
import Derived.Lib.SmallJoins
import Derived.ChangeMaps5
import Derived.ChangeArms
import Derived.RowKit
set_option linter.unusedVariables false
set_option maxHeartbeats 8000000
set_option maxRecDepth 100000
namespace Go.Proofs.YtnpfaajhgghpgaaGreatDoor
open Go.Shelf Go.RowKit Go.Maps
theorem Zl1 (t:ByteArray):(evTags t).length<=t.size+1:=by
 unfold evTags;split
 ·simp
 ·have h1:=Lib.splitB_length_le ⟨#[44]⟩ 0 (Lib.countB (restP t) ⟨#[44]⟩) (restP t);have h2:=Ze5 t;have h3:Lib.countB (restP t) ⟨#[44]⟩<=(restP t).size:=Lib.countB_le ⟨#[44]⟩ (by decide) _ _ (zr _);unfold parts;omega
end Go.Proofs.YtnpfaajhgghpgaaGreatDoor
namespace Go.Proofs.YtnpfaajhgghpgaaGreatDoor
open Go.Shelf Go.RowKit Go.Maps
end Go.Proofs.YtnpfaajhgghpgaaGreatDoor
namespace Go.Proofs.YtnpfaajhgghpgaaGreatDoor
open Go.Shelf Go.RowKit Go.Maps
def EvSmall (e:Ev):Prop:=e.src.size<=300/\e.person.size<=300/\e.item.size<=300/\e.text.size<=300
theorem EvSmall.sh {e:Ev}(h:EvSmall e):EvSh e:=by obtain⟨h1,h2,h3,h4⟩:=h;exact⟨by omega,by omega,by omega,by omega⟩
end Go.Proofs.YtnpfaajhgghpgaaGreatDoor
namespace Go.Proofs.YtnpfaajhgghpgaaGreatDoor
open Go.Shelf Go.RowKit Go.Maps
open Ru (Fz fzA fzX Nd holdsR RuleV ruleT Says errOf ErrAt TabAt)
def RlIs (w:World)(B:Nat):Option (Option Nd)->Option Addr->Prop
 | none,q=>q=none
 | some r,q=>q≠none/\RuleV w B (some r) (.pointer q)/\(ruleT r).size<=4000
theorem RlIs.below {w w':World}{B:Nat}{R:Option (Option Nd)}{q:Option Addr}(h:RlIs w B R q)(hb:Below w.heap.size w w'):RlIs w' B R q:=by
 cases R with
 | none=>exact h
 | some r=>exact⟨h.1,h.2.1.below hb,h.2.2⟩
theorem RlIs.asks {w:World}{B:Nat}{R:Option (Option Nd)}{q:Option Addr}(h:RlIs w B R q)(hg:GlobAt w):RuleH w (.pointer q) (okP R):=by
 cases R with
 | none=>cases h;exact RuleH.nil w
 | some r=>exact fun W hb z hz=>Ru.Znf z (by omega) r B _ W (h.2.1.below hb) (by have:=h.2.2;omega) (hg.keep hb (zr _))
theorem Zn2 {w:World}{B:Nat}{r:Option (Option Nd)}{v:Value}(h:RuleV w B r v):∃q,v = .pointer q/\(q=none↔r=none):=by
 match r,h with
 | none,h=>exact⟨none,h,by simp⟩
 | some none,⟨g,e,_⟩=>exact⟨_,e,by simp⟩
 | some (some n),⟨_,g,u,e,_⟩=>exact⟨_,e,by simp⟩
end Go.Proofs.YtnpfaajhgghpgaaGreatDoor
namespace Go.Proofs.YtnpfaajhgghpgaaGreatDoor
open Go.Shelf Go.RowKit Go.Maps
open Ru (Fz fzA fzX Nd holdsR RuleV ruleT Says errOf ErrAt TabAt)
end Go.Proofs.YtnpfaajhgghpgaaGreatDoor
namespace Go.Proofs.YtnpfaajhgghpgaaGreatDoor
open Go.ChangeShapes Go.WideShapes Go.Deep
section
variable {H : Type} {enc : TypeId × Value -> H} {P : Program} {w : World} {base : Nat} {spare : Nat -> Bool} {held : Bool}
theorem Zeg {t e:TypeId}{fs:Array Field}{fuel:Nat}{cs:List Value}{x:DataW H×List MemPlace}(ht:P.underlying t=some (.slice e))(he:P.underlying e=some (.struct fs))
  (hone:oneCellFields P fs=true) (hC:P.cellsOf e=fs.size) (h:DataW.trod enc P w base spare held fuel t cs=some x) :
  (cs = [.slice none 0 0]/\x=(.nil,[])) \/
  ∃(a:Addr) (len cap m:Nat) (D:Nat->DataW H) (Pl:Nat->List MemPlace),cs = [.slice (some a) len cap]/\base<=a.block/\len<=cap/\cap<=maxLen/\m=(if spare a.block then cap else len) /\
   x=(.slice ((List.range len).map D) ((List.range (m - len)).map fun j=>D (len+j)),MemPlace.row a (m*fs.size)++(List.range m).flatMap Pl) /\
   ∀i,i<m->∃(ys:List (DataW H×List MemPlace)) (n:Nat),D i = .agg (ys.map (·.1))/\Pl i=ys.flatMap (·.2)/\ys.length=fs.size /\
    ∀(j:Nat) (f:Field),fs[j]? = some f->∃(v:Value) (y:DataW H×List MemPlace),w.cell? (a.add (i*fs.size+j))=some v/\ys[j]? = some y/\DataW.trod enc P w base spare held n f.type [v]=some y:=by
 rcases open_slice ht h with h0|⟨a,len,cap,m,n,D,Pl,hcs,hb,hl,hm,hmm,hx,hi⟩
 ·exact .inl h0
 ·refine .inr ⟨a,len,cap,m,D,Pl,hcs,hb,hl,hm,hmm,by rw[hC]at hx;exact hx,fun i him=>?_⟩;obtain⟨cs',hc,ht'⟩:=hi i him;rw[hC]at hc;obtain⟨ys,n',hn',hy,hlen,hyl,hf⟩:=DataW.trod_struct he ht';obtain⟨_,hcl,hat⟩:=World.cells?_some hc;simp only[Prod.mk.injEq]at hy;refine⟨ys,n',hy.1,hy.2,hyl,fun j f hj=>?_⟩;obtain⟨ho,hk⟩:=hone_of hone j f hj;have hjl:j<fs.size:=(Array.getElem?_eq_some_iff.1 hj).1;have hcell:=hat j hjl;have hv:cs'[j]? = some (cs'[j]'(by omega)):=List.getElem?_eq_getElem (by omega);have h1:=hf j f hj;rw[ho,hk]at h1;have hone':(cs'.drop j).take 1 = [cs'[j]'(by omega)]:=by
   rw[List.drop_eq_getElem_cons (by omega)]
   rfl
  rw[hone']at h1;have hys:ys[j]? = some (ys[j]'(by omega)):=List.getElem?_eq_getElem (by omega);refine⟨_,_,?_,hys,h1.trans hys⟩;rw[<-Go.Deep.add_add,hcell,hv]
end
theorem cell_lt {w:World}{a:Addr}{v:Value}(h:w.cell? a=some v):a.block<w.heap.size:=by
 rcases Nat.lt_or_ge a.block w.heap.size with h1|h1
 ·exact h1
 ·unfold World.cell? at h;rw[Array.getElem?_eq_none h1]at h;simp at h
theorem Zn3 {α:Type}{p:Nat->α->Prop}:∀(n:Nat),(∀i,i<n->∃x,p i x)->∃l:List α,l.length=n/\∀i x,l[i]? = some x->p i x
 | 0,_=>⟨[],rfl,fun i x h=>by simp at h⟩
 | n+1,h=>by
  obtain⟨l,hl,hp⟩:=Zn3 n (fun i hi=>h i (by omega));obtain⟨x,hx⟩:=h n (by omega);refine⟨l++[x],by simp[hl],fun i y hy=>?_⟩;rcases Nat.lt_or_ge i l.length with h1|h1
  ·rw[List.getElem?_append_left h1]at hy;exact hp i y hy
  ·rw[List.getElem?_append_right h1]at hy;have:i - l.length=0:=by
    rcases Nat.eq_zero_or_pos (i - l.length) with h2|h2
    ·exact h2
    ·rw[List.getElem?_eq_none (by simp;omega)]at hy;cases hy
   rw[this]at hy;simp at hy;subst hy;rw[show i=n from by omega];exact hx
theorem Zqr (b off k:Nat):(⟨b,off,none⟩:Addr).add k=⟨b,off+k,none⟩:=by
 unfold Addr.add;split
 ·rename_i h;subst h;rfl
 ·rfl
theorem Zdb {H:Type}{P:Program}{e:TypeId}{d:DataW H}{n:Nat}(hn:n∈d.weights P e):∀{l:List (DataW H)},d∈l->n∈DataW.weightsAll P e l
 | x::l,h=>by
  simp only[DataW.weightsAll,List.mem_append];rcases List.mem_cons.1 h with rfl|h
  ·exact Or.inl hn
  ·exact Or.inr (Zdb hn h)
def EvWf (e:Ev):Prop:=(Lit.int .i64 e.num).wf=true/\(Lit.int .i64 e.tick).wf=true/\(Lit.int .i64 e.kind).wf=true/\(Lit.int .i64 e.value).wf=true
theorem evs_of {H:Type}{enc:TypeId×Value->H}{w:World}{base:Nat}{spare:Nat->Bool}{held:Bool}{fuel:Nat}{a:Option Addr}{len cap:Nat}{x:DataW H×List MemPlace}
  (h:DataW.trod enc Tryz.prog w base spare held fuel 23 [.slice a len cap]=some x) (hw:∀n∈x.1.weights Tryz.prog 23,n<=reachBytes) :
  ∃l:List Ev,l.length=len/\len<=140737488355328/\EvsAt w w.heap.size a l/\(a=none->cap=0)/\(∀y∈l,EvBd y)/\∀y∈l,EvWf y:=by
 rcases Zeg Tryz.underlying23 Tryz.underlying59 (by kernel_rfl) (by kernel_rfl) h with ⟨hcs,_⟩|⟨ad,n,c,m,D,Pl,hcs,_,hl,hm,hmm,hx,hi⟩
 ·simp at hcs;obtain⟨rfl,rfl,rfl⟩:=hcs;exact⟨[],rfl,Nat.zero_le _,RowIn.nil _ _ _ _,fun _=>rfl,fun y hy=>(by cases hy),fun y hy=>(by cases hy)⟩
 ·simp at hcs;obtain⟨rfl,rfl,rfl⟩:=hcs;have hlm:len<=m:=by rw[hmm];split <;> omega
  have hbo:Tryz.prog.bytesOf 59 = 96:=by kernel_rfl
  have hlen:len<=140737488355328:=by
   have h1:=hw ((len+(m - len))*96) (by rw[hx];simp[DataW.weights,Tryz.underlying23,hbo]);unfold reachBytes at h1;omega
  obtain⟨l,h1,h2⟩:=Zn3 (α:=Ev) (p:=fun i y=>(∃b off,some ad=some ⟨b,off,none⟩/\b<w.heap.size/\EvAt w b (off+i*8) y)/\EvBd y/\EvWf y) len (fun i hil=>by
   obtain⟨ys,n',hD,_,hys,hf⟩:=hi i (by omega);obtain⟨v0,y0,e0,g0,t0⟩:=hf 0 _ rfl;obtain⟨v1,y1,e1,g1,t1⟩:=hf 1 _ rfl;obtain⟨v2,y2,e2,g2,t2⟩:=hf 2 _ rfl;obtain⟨v3,y3,e3,g3,t3⟩:=hf 3 _ rfl;obtain⟨v4,y4,e4,g4,t4⟩:=hf 4 _ rfl;obtain⟨v5,y5,e5,g5,t5⟩:=hf 5 _ rfl;obtain⟨v6,y6,e6,g6,t6⟩:=hf 6 _ rfl;obtain⟨v7,y7,e7,g7,t7⟩:=hf 7 _ rfl;obtain⟨x0,hv0,hd0,_⟩:=DataW.trod_string Tryz.underlying9 t0;obtain⟨x1,hv1,_,hw1⟩:=DataW.trod_int Tryz.underlying3 t1;obtain⟨x2,hv2,_,hw2⟩:=DataW.trod_int Tryz.underlying3 t2;obtain⟨x3,hv3,_,hw3⟩:=DataW.trod_int Tryz.underlying57 t3;obtain⟨x4,hv4,hd4,_⟩:=DataW.trod_string Tryz.underlying9 t4;obtain⟨x5,hv5,hd5,_⟩:=DataW.trod_string Tryz.underlying9 t5;obtain⟨x6,hv6,_,hw6⟩:=DataW.trod_int Tryz.underlying3 t6;obtain⟨x7,hv7,hd7,_⟩:=DataW.trod_string Tryz.underlying9 t7;simp at hv0 hv1 hv2 hv3 hv4 hv5 hv6 hv7;subst hv0 hv1 hv2 hv3 hv4 hv5 hv6 hv7;have hin:D i∈(List.range len).map D:=List.mem_map.2 ⟨i,List.mem_range.2 hil,rfl⟩
   have hwD:∀k∈(D i).weights Tryz.prog 59,k<=reachBytes:=fun k hk=>hw k (by
    rw[hx];simp only[DataW.weights,Tryz.underlying23,List.mem_cons,List.mem_append];exact Or.inr (Or.inl (Zdb hk hin)))
   have hz:∀(j:Nat) (s:ByteArray) (z:DataW H×List MemPlace),ys[j]? = some z->z.1 = .lit (.string s.data.toList)->(j=0\/j=4\/j=5\/j=7)->s.size<=281474976710656:=fun j s z hz hs hj=>by
    have h3:=hwD s.data.toList.length (by
     rw[hD];simp only[DataW.weights,Tryz.underlying59];refine DataW.weights_mem_each (j:=j) (t:=9) (d:=z.1) ?_ (by simp[hz]) _ (by rw[hs];simp[DataW.weights]);rcases hj with rfl|rfl|rfl|rfl <;> rfl)
    have e:s.data.toList.length=s.size:=by simp
    rw[e]at h3;unfold reachBytes at h3;omega
   obtain⟨_,_,_,_,_,hf0⟩:=hi 0 (by omega);obtain⟨u0,_,d0,_,_⟩:=hf0 0 _ rfl;have hsp:ad.spot=none:=World.cell?_spot (by simpa [Addr.add] using d0);obtain⟨b,off,spot⟩:=ad;have hs2:spot=none:=hsp;subst hs2;have e0':w.cell? ((⟨b,off,none⟩:Addr).add (i*8+0))=some (.string x0):=e0;have e1':w.cell? ((⟨b,off,none⟩:Addr).add (i*8+1))=some (.int .i64 x1):=e1;have e2':w.cell? ((⟨b,off,none⟩:Addr).add (i*8+2))=some (.int .i64 x2):=e2;have e3':w.cell? ((⟨b,off,none⟩:Addr).add (i*8+3))=some (.int .i64 x3):=e3;have e4':w.cell? ((⟨b,off,none⟩:Addr).add (i*8+4))=some (.string x4):=e4;have e5':w.cell? ((⟨b,off,none⟩:Addr).add (i*8+5))=some (.string x5):=e5;have e6':w.cell? ((⟨b,off,none⟩:Addr).add (i*8+6))=some (.int .i64 x6):=e6;have e7':w.cell? ((⟨b,off,none⟩:Addr).add (i*8+7))=some (.string x7):=e7;rw[Zqr]at e0' e1' e2' e3' e4' e5' e6' e7';refine⟨⟨x0,x1,x2,x3,x4,x5,x6,x7⟩,⟨b,off,rfl,cell_lt (a:=⟨b,_,none⟩) e0',by simpa using e0',?_,?_,?_,?_,?_,?_,?_⟩,⟨hz 0 x0 y0 g0 (by rw[hd0]) (by simp),hz 4 x4 y4 g4 (by rw[hd4]) (by simp),hz 5 x5 y5 g5 (by rw[hd5]) (by simp),hz 7 x7 y7 g7 (by rw[hd7]) (by simp)⟩,⟨hw1,hw2,hw3,hw6⟩⟩
   ·rw[Nat.add_assoc];exact e1'
   ·rw[Nat.add_assoc];exact e2'
   ·rw[Nat.add_assoc];exact e3'
   ·rw[Nat.add_assoc];exact e4'
   ·rw[Nat.add_assoc];exact e5'
   ·rw[Nat.add_assoc];exact e6'
   ·rw[Nat.add_assoc];exact e7')
  refine⟨l,h1,hlen,?_,fun h=>(by cases h),fun y hy=>?_,fun y hy=>?_⟩
  ·refine⟨by rw[Zc2 evC 8 Za7,h1],?_⟩;rcases Nat.eq_zero_or_pos l.length with h0|h0
   ·exact Or.inl h0
   ·obtain⟨⟨b,off,hA,hb,_⟩,_⟩:=h2 0 (l[0]'h0) (List.getElem?_eq_getElem h0);refine Or.inr ⟨b,off,hA,hb,fun j u hu=>?_⟩;have hj:j<l.length*8:=by
     have:=(List.getElem?_eq_some_iff.1 hu).1
     rwa [Zc2 evC 8 Za7]at this
    have hq:j / 8<l.length:=by omega
    obtain⟨⟨b',off',hA',_,hc⟩,_⟩:=h2 (j / 8) (l[j / 8]'hq) (List.getElem?_eq_getElem hq);rw[hA]at hA';injection hA' with hA';injection hA' with hb' ho';subst hb' ho';have hg:=Zbi evC 8 Za7 l (j / 8) (j % 8) _ (List.getElem?_eq_getElem hq) (by omega);rw[show j / 8*8+j % 8=j from by omega,hu]at hg;obtain⟨c0,c1,c2,c3,c4,c5,c6,c7⟩:=hc;have h4:j % 8=0\/j % 8=1\/j % 8=2\/j % 8=3\/j % 8=4\/j % 8=5\/j % 8=6\/j % 8=7:=by omega
    rcases h4 with h4|h4|h4|h4|h4|h4|h4|h4 <;> rw[h4]at hg <;> simp[evC]at hg <;> subst hg
    ·rw[show off+j=off+j / 8*8 from by omega];exact c0
    ·rw[show off+j=off+j / 8*8+1 from by omega];exact c1
    ·rw[show off+j=off+j / 8*8+2 from by omega];exact c2
    ·rw[show off+j=off+j / 8*8+3 from by omega];exact c3
    ·rw[show off+j=off+j / 8*8+4 from by omega];exact c4
    ·rw[show off+j=off+j / 8*8+5 from by omega];exact c5
    ·rw[show off+j=off+j / 8*8+6 from by omega];exact c6
    ·rw[show off+j=off+j / 8*8+7 from by omega];exact c7
  ·obtain⟨i,hi'⟩:=List.mem_iff_getElem?.1 hy;exact (h2 i y hi').2.1
  ·obtain⟨i,hi'⟩:=List.mem_iff_getElem?.1 hy;exact (h2 i y hi').2.2
theorem glob_of {W:World}(h:W.ShapedOpen Tryz.prog):GlobAt W:=by
 obtain⟨m,hm⟩:=Tryz.laysSplit.s1_3 W h;exact⟨cell_lt (a:=⟨2,0,none⟩) hm,m,hm⟩
end Go.Proofs.YtnpfaajhgghpgaaGreatDoor
namespace Go.Proofs.YtnpfaajhgghpgaaGreatDoor
open Go.ChangeShapes Go.WideShapes Go.RowKit
def strData {H:Type}(zs:List ByteArray):DataW H:=.agg (zs.map fun z=>.lit (.string z.data.toList))
theorem Zha {H:Type}{enc:TypeId×Value->H}{P:Program}{w:World}{base:Nat}{sp:Nat->Bool}{held:Bool}{fuel:Nat}{t e:TypeId}{n:Nat}{cs:List Value}{zs:List ByteArray}{p:List MemPlace}
  (ht:P.underlying t=some (.array n e)) (he:P.underlying e=some .string) (hce:P.cellsOf e=1) (hct:P.cellsOf t=n)
  (h:DataW.trod enc P w base sp held fuel t cs=some (strData zs,p)):cs=zs.map fun z=>Value.string z:=by
 cases fuel with
 | zero=>simp[DataW.trod]at h
 | succ fuel=>
  simp only[DataW.trod,ht,hce,hct,Nat.mul_one]at h;split at h
  ·rename_i hl
   obtain⟨xs,hm,hx⟩:=Option.map_eq_some_iff.1 h;have hxs:xs.map (·.1)=zs.map fun z=>(DataW.lit (.string z.data.toList):DataW H):=by
    have:=congrArg Prod.fst hx;simpa [strData] using this
   have hxl:xs.length=n:=by simpa using Lib.mapM_length hm
   have hzl:zs.length=n:=by
    have:=congrArg List.length hxs;simp at this;omega
   apply List.ext_getElem?;intro i;by_cases hi:i<n
   ·obtain⟨b,hb,hf⟩:=Lib.mapM_at hm i i (by simp[hi]);obtain⟨z,hc,hd,_⟩:=DataW.trod_string he hf;have h1:cs[i]? = some (.string z):=by
     have:=congrArg (·[0]?) hc;simpa [List.getElem?_take,List.getElem?_drop] using this
    have h2:(xs.map (·.1))[i]? = some (DataW.lit (.string z.data.toList):DataW H):=by simp[hb,hd]
    rw[hxs]at h2;simp only[List.getElem?_map,Option.map_eq_some_iff,DataW.lit.injEq,Lit.string.injEq]at h2;obtain⟨z',hz',he'⟩:=h2;have:z'=z:=by
     cases z';cases z;simp at he';subst he'
     rfl
    simp[h1,hz',this]
   ·rw[List.getElem?_eq_none (by omega),List.getElem?_eq_none (by simp;omega)]
  ·cases h
theorem strs_of_head {P:Program}{W:World}{name:String}{zs:List ByteArray}{rest:List (String×DataW Unit)}{g:Nat}{t e:TypeId}{n:Nat}
  (hg:P.globalNamed name=some g) (hty:(P.globals[g]?).map (·.type)=some t) (ht:P.underlying t=some (.array n e)) (he:P.underlying e=some .string) (hce:P.cellsOf e=1) (hct:P.cellsOf t=n)
  (h:laidMet P ((name,strData zs)::rest) W):∀(i:Nat) z,zs[i]? = some z->W.cell? ⟨g,i,none⟩=some (.string z):=by
 obtain⟨ps,⟨g',t',cs,fuel,p,q,hg',ht',hvar,hd,_,_⟩,_⟩:=h;obtain rfl:=Option.some.inj (hg.symm.trans hg');obtain rfl:=Option.some.inj (hty.symm.trans ht');have h1:=Zha ht he hce hct hd;intro i z hz;have h2:=World.var?_cell hg hvar i;rw[h2];have h3:cs.toList[i]? = some (.string z):=by rw[h1];simp[hz]
 simpa using h3
end Go.Proofs.YtnpfaajhgghpgaaGreatDoor
namespace Go.Proofs.YtnpfaajhgghpgaaGreatDoor
open Go.Shelf Go.RowKit Go.Maps
end Go.Proofs.YtnpfaajhgghpgaaGreatDoor
namespace Go.Proofs.YtnpfaajhgghpgaaGreatDoor
open Go.Shelf Go.RowKit Go.Maps
theorem Zn4:∀a:List UInt8,Lib.compareBytes a a=0
 | []=>rfl
 | x::a=>by
  unfold Lib.compareBytes;simp[Zn4 a]
theorem Zs2 (a:Int):cmpI a a=0:=by unfold cmpI;rw[if_neg (by omega),if_neg (by omega)]
theorem Zay {t:ByteArray}(h:nameB t=true):t.size<=24:=by
 unfold nameB at h;rw[Bool.and_eq_true,decide_eq_true_eq]at h;exact h.1.2
theorem str_t {a b:ByteArray}(h:a=b):(a.toList == b.toList)=true:=(Zbw _ _).2 h
theorem str_f {a b:ByteArray}(h:a≠b):(a.toList == b.toList)=false:=by
 cases e:a.toList == b.toList
 ·rfl
 ·exact absurd ((Zbw _ _).1 e) h
theorem Zcz {w:World}{b b':Nat}{e size n:Nat}{v:Value}{xs:List Value}(h:w.ownsRow b e size v n xs)(hb:b'<=b):w.ownsRow b' e size v n xs:=Zgj h hb
end Go.Proofs.YtnpfaajhgghpgaaGreatDoor
namespace Go.Proofs.YtnpfaajhgghpgaaGreatDoor.Ru
open Go.Shelf Go.RowKit Go.Maps
theorem Zkw (ts:List Tk):(tx ts).length=ts.length:=by unfold tx;rw[List.length_map]
theorem P.det {k d:Nat}{L L1:List ByteArray}{ok:Bool}{ns:List Nd}(h:P k d L ok L1 ns):∀{L2:List ByteArray} {ok2:Bool} {ns2:List Nd},P k d L ok2 L2 ns2->ok=ok2/\L1=L2/\(ok=true->ns=ns2):=by
 have hno:notW≠openW:=by decide
 induction h with
 | rlast hk h hn ih=>
  intro L2 ok2 ns2 h2;cases h2 with
  | rlast hk' h' hn'=>
   obtain⟨e1,e2,e3⟩:=ih h';exact⟨e1,e2,fun ht=>by rw[e3 ht]⟩
  | rmore hk' h' hw' h2'=>
   obtain⟨rfl,rfl,e3⟩:=ih h';rcases hn with hn|hn
   ·cases hn
   ·exact absurd hw' hn
  | no _ _=>omega
  | open_ _ _ _ _=>omega
  | openBad _ _ _ _=>omega
  | leaf _=>omega
  | bad _ _ _=>omega
 | rmore hk h hw h2 ih ih2=>
  intro L2 ok2 ns2 h3;cases h3 with
  | rlast hk' h' hn'=>
   obtain⟨rfl,rfl,e3⟩:=ih h';rcases hn' with hn|hn
   ·cases hn
   ·exact absurd hw hn
  | rmore hk' h' hw' h2'=>
   obtain⟨_,rfl,e3⟩:=ih h';obtain⟨e4,e5,e6⟩:=ih2 h2';exact⟨e4,e5,fun ht=>by rw[e3 rfl,e6 ht]⟩
  | no _ _=>omega
  | open_ _ _ _ _=>omega
  | openBad _ _ _ _=>omega
  | leaf _=>omega
  | bad _ _ _=>omega
 | no hw h ih=>
  intro L2 ok2 ns2 h2;cases h2 with
  | rlast hk' _ _=>omega
  | rmore hk' _ _ _=>omega
  | no hw' h'=>
   obtain⟨e1,e2,e3⟩:=ih h';exact⟨e1,e2,fun ht=>by rw[e3 ht]⟩
  | open_ hw' _ _ _=>exact absurd (hw.symm.trans hw') hno
  | openBad hw' _ _ _=>exact absurd (hw.symm.trans hw') hno
  | leaf h'=>exact absurd h' (Zcm (Or.inl hw) _)
  | bad h1 _ _=>exact absurd hw h1
 | open_ hw hd' h hc ih=>
  intro L2 ok2 ns2 h2;cases h2 with
  | rlast hk' _ _=>omega
  | rmore hk' _ _ _=>omega
  | no hw' h'=>exact absurd (hw'.symm.trans hw) hno
  | open_ hw' _ h' _=>
   obtain⟨_,rfl,e3⟩:=ih h';exact⟨rfl,rfl,fun ht=>by rw[e3 rfl]⟩
  | openBad hw' _ h' hc'=>
   obtain⟨rfl,rfl,_⟩:=ih h';rcases hc' with hc'|hc'
   ·cases hc'
   ·exact absurd hc hc'
  | leaf h'=>exact absurd h' (Zcm (Or.inr (Or.inl hw)) _)
  | bad _ h2' _=>exact absurd ⟨hw,hd'⟩ h2'
 | openBad hw hd' h hc ih=>
  intro L2 ok2 ns2 h2;cases h2 with
  | rlast hk' _ _=>omega
  | rmore hk' _ _ _=>omega
  | no hw' h'=>exact absurd (hw'.symm.trans hw) hno
  | open_ hw' _ h' hc'=>
   obtain⟨rfl,rfl,_⟩:=ih h';rcases hc with hc|hc
   ·cases hc
   ·exact absurd hc' hc
  | openBad hw' _ h' hc'=>
   obtain⟨_,e2,_⟩:=ih h';exact⟨rfl,e2,fun ht=>by cases ht⟩
  | leaf h'=>exact absurd h' (Zcm (Or.inr (Or.inl hw)) _)
  | bad _ h2' _=>exact absurd ⟨hw,hd'⟩ h2'
 | leaf h=>
  intro L2 ok2 ns2 h2;cases h2 with
  | rlast hk' _ _=>omega
  | rmore hk' _ _ _=>omega
  | no hw' h'=>exact absurd h (Zcm (Or.inl hw') _)
  | open_ hw' _ _ _=>exact absurd h (Zcm (Or.inr (Or.inl hw')) _)
  | openBad hw' _ _ _=>exact absurd h (Zcm (Or.inr (Or.inl hw')) _)
  | leaf h'=>exact⟨rfl,rfl,fun _=>by rw[h.one h']⟩
  | bad _ _ h3=>exact absurd h (h3 _)
 | bad h1 h2 h3=>
  intro L2 ok2 ns2 h4;cases h4 with
  | rlast hk' _ _=>omega
  | rmore hk' _ _ _=>omega
  | no hw' h'=>exact absurd hw' h1
  | open_ hw' hd' _ _=>exact absurd ⟨hw',hd'⟩ h2
  | openBad hw' hd' _ _=>exact absurd ⟨hw',hd'⟩ h2
  | leaf h'=>exact absurd h' (h3 _)
  | bad _ _ _=>exact⟨rfl,rfl,fun ht=>by cases ht⟩
theorem Says.det {s:ByteArray}{r r':Option (Option Nd)}{a a':Nat}(h:Says s r a)(h':Says s r' a'):r=r'/\a=a':=by
 cases h with
 | long h=>
  cases h' with
  | long _=>exact⟨rfl,rfl⟩
  | empty h2 _=>omega
  | good h2 _ _=>omega
  | bad h2 _ _ _=>omega
 | empty h h0=>
  cases h' with
  | long h2=>omega
  | empty _ _=>exact⟨rfl,rfl⟩
  | good _ h2 _=>exact absurd h0 h2
  | bad _ h2 _ _=>exact absurd h0 h2
 | @good ns h h0 hp=>
  cases h' with
  | long h2=>omega
  | empty _ h2=>exact absurd h2 h0
  | good _ _ hp2=>obtain⟨_,_,e⟩:=hp.det hp2;rw[e rfl];exact⟨rfl,rfl⟩
  | @bad ok j ns2 _ _ hp2 hn=>
   obtain⟨rfl,e,_⟩:=hp.det hp2;rcases hn with hn|hn
   ·cases hn
   ·exfalso;have:=congrArg List.length e;rw[Zkw]at this;exact hn (List.length_eq_zero_iff.1 this.symm)
 | @bad ok j ns h h0 hp hn=>
  cases h' with
  | long h2=>omega
  | empty _ h2=>exact absurd h2 h0
  | @good ns2 _ _ hp2=>
   obtain⟨rfl,e,_⟩:=hp.det hp2;rcases hn with hn|hn
   ·cases hn
   ·exfalso;have:=congrArg List.length e;rw[Zkw]at this;exact hn (List.length_eq_zero_iff.1 this)
  | @bad ok2 j2 ns2 _ _ hp2 hn2=>
   obtain⟨rfl,e,_⟩:=hp.det hp2;have h1:=congrArg List.length e;rw[Zkw,Zkw,List.length_drop,List.length_drop]at h1;refine⟨rfl,?_⟩;by_cases hj:j<(toks s).length
   ·have:j=j2:=by omega
    rw[this]
   ·rw[List.drop_eq_nil_of_le (by omega),List.drop_eq_nil_of_le (by omega)]
end Go.Proofs.YtnpfaajhgghpgaaGreatDoor.Ru
namespace Go.Proofs.YtnpfaajhgghpgaaGreatDoor
open Go.Shelf Go.RowKit Go.Maps
open Ru (Fz fzA fzX Nd holdsR RuleV ruleT Says errOf ErrAt TabAt)
theorem Zs3 {E:List Ev}{p i:ByteArray}{now:Int}(hall:∀e∈E,EvOk e)(hi:i.size<=300):(fzOf E p i now).tags.size<=300:=by
 show ((Ct.atP (thgs E) i now).getD Ct.it0).tags.size<=300;cases ha:Ct.atP (thgs E) i now with
 | none=>exact Nat.zero_le _
 | some x=>exact (at_ok (fun e he=>(hall e he).1) (fun e he=>(hall e he).2) hi ha).tags
def TrueR (w:World)(e:Ending)(w':World):Prop:=e = .returned (.bool true)/\Below w.heap.size w w'
end Go.Proofs.YtnpfaajhgghpgaaGreatDoor

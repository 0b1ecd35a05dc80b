/- A part of the joined base. A part of the joined base. A part of the joined base. A part of the joined base. A part of the joined base. A part of the joined base. The joined base. -/
import Derived.Test.YtnpfaajhgghpgaaGreatDoorU35
import Derived.KernelRfl
set_option linter.unusedVariables false
set_option maxHeartbeats 8000000
set_option maxRecDepth 100000
namespace Go.Proofs.YtnpfaajhgghpgaaGreatDoor
open Go.Shelf Go.RowKit Go.Maps
open Ru (Fz fzA fzX Nd holdsR RuleV ruleT Says errOf ErrAt TabAt)
theorem Zin {l:List (Nat×List Ev)}{j:Nat}{x:Nat×List Ev}(h:l[j]? = some x):evsC (l.take (j+1))=evsC (l.take j)++x.2:=by
 rw[Zbd h];unfold evsC;rw[List.flatMap_append];simp
theorem Zra {l:List (Nat×List Ev)}{j k:Nat}(h:∀x∈l,x.2.length<=k):(evsC (l.take j)).length<=j*k:=by
 induction j with
 | zero=>simp[evsC]
 | succ j ih=>
  cases hx:l[j]? with
  | none=>
   have hl:=List.getElem?_eq_none_iff.1 hx;rw[List.take_of_length_le (by omega)]at ih ⊢;rw[Nat.add_mul];omega
  | some x=>
   rw[Zin hx,List.length_append];have:=h x (List.mem_of_getElem? hx);rw[Nat.add_mul];omega
theorem whof_no (w:World)(wb:Nat)(s:Sg)(r:Option Nd)(hs:SgOk s r)(p i:ByteArray)(now:Int)(hpz:p.size<=60)(hiz:i.size<=60)(ht:toldB p i now=false)(hg:Lb2 w) :
  Calls Tryz.prog 10 #[.pointer (some ⟨wb,0,none⟩),sgA s,.string p,.string i,.int .i64 now] w fun e w'=>e = .returned (.slice none 0 0)/\Below w.heap.size w w':=by
 obtain⟨w1,hw1⟩:=zG (w.alloc (.cells (sgArr s) 32));have HX1:Hid (Blk w1 w.heap.size 32 (sgArr s)):=zB hw1;have HB1:=zA hw1;have HAS:=zh (Zrt s r hs p i now hpz hiz ht w1 (hg.keep HB1.o));have hsz:(sgArr s).size=22:=rfl;obtain⟨sa,hsa⟩:=zG (sgArr s);unfold sgA at HAS ⊢;rw[hsa]at hw1 HAS HX1 hsz ⊢;have HSI:Hid ((Tryz.prog.info? 32).map (·.size)=some sa.size):=zh (by rw[hsz];exact Zb6);clear hs hg ht hpz hiz hsa hsz;go_enter Tryz.func10,Tryz.ntmps10
 go_wp2_with (first
  | (refine wpList_load_row rfl 32 _ rfl w.heap.size rfl 32 sa (0,0) _ HX1.o Tryz.underlying32 rfl HSI.o ?_)
  | fail)
 refine HAS.o.mono ?_;rintro e w2 ⟨rfl,hb2⟩;have HB2:=zT HB1 hb2;clear hb2 HAS hw1 HX1 HSI HB1
 go_wp2_with (first
  | (refine Zad _ rfl 87 (.tmp 11) (.tmp 24) rfl 0 (qArr none ⟨#[]⟩ ⟨#[]⟩ 0) rfl rfl (Blk.new _ _ _) (by show 0+4<=4;omega) Zc0 (by simp[qArr,Value.oneCell']) ?_;intro w3 hb3 hk3 hs3)
  | fail)
 (try simp only[Exit.inBlock,Exit.then])
 have HB3:Hid (Below w.heap.size w w3):=zh (HB2.o.trans ((((Below.refl _ _).alloc (zr _) _).trans (hk3.toBelow (fun i hi=>by rw[hi];exact zr _) (by simp))).mono HB2.o.size));clear hb3 hk3 hs3;go_wp2_with fail;go_ret;exact⟨rfl,HB3.o⟩
end Go.Proofs.YtnpfaajhgghpgaaGreatDoor
namespace Go.Proofs.YtnpfaajhgghpgaaGreatDoor.Ru
open Go.RowKit Go.Maps Go.Shelf
theorem Zjo {n:Nd}{s:ByteArray}(hn:NF n)(hd:0+dep n 1<=40)(ht:tkN n 1=tkS s)(hz:s.size<=2000)(hne:toks s≠[]):Says s (some (some n)) 0:=by
 obtain⟨ns,hp,e⟩:=Zpv hn 0 0 (by omega) hd [] Zpw;rw[List.append_nil,show (0:Nat)+1=1 from rfl,ht,<-Zi8]at hp;have:=Says.good hz hne hp
 rwa [e]at this
def rl0:ByteArray:=⟨#[]⟩
def rl1:ByteArray:=⟨#[115,116,111,99,107,62,48]⟩
def rl2:ByteArray:=⟨#[110,111,116,32,116,97,103,58,120]⟩
def rl3:ByteArray:=⟨#[112,114,105,99,101,60,53,32,111,114,32,102,111,108,108,111,119,115]⟩
theorem dec0:Lib.decDigits 0 = [48]:=by
 rw[Lib.decDigits,dif_pos (by decide)]
 rfl
theorem dec5:Lib.decDigits 5 = [53]:=by
 rw[Lib.decDigits,dif_pos (by decide)]
 rfl
theorem leafS:leafT (.num 1 false 0)=rl1:=by
 refine Za5 ?_;simp only[leafT,Za6,Zak,dec0]
 rfl
theorem leafP:leafT (.num 0 true 5)=⟨#[112,114,105,99,101,60,53]⟩:=by
 refine Za5 ?_;simp only[leafT,Za6,Zak,dec5]
 rfl
theorem says0:Says rl0 (some none) 0:=Says.empty (by decide) (by rw[Zez];decide)
theorem says1:Says rl1 (some (some (.atom (.num 1 false 0)))) 0:=by
 refine Zjo (.atom ⟨by decide,by decide⟩) (by decide) ?_ (by decide) (by rw[Ne,Zez];decide);rw[tkN,leafS]
 rfl
theorem says2:Says rl2 (some (some (.no (.atom (.tag ⟨#[120]⟩))))) 0:=by
 refine Zjo (.no (.atom (show nameB _=true by decide))) (by decide) ?_ (by decide) (by rw[Ne,Zez];decide);simp only[tkN]
 rfl
theorem says3:Says rl3 (some (some (.row 0 [.atom (.num 0 true 5),.atom .follows]))) 0:=by
 refine Zjo (.row (by omega) (fun n hn=>?_) (fun n hn l=>?_) (by decide)) (by decide) ?_ (by decide) (by rw[Ne,Zez];decide)
 ·simp at hn;rcases hn with rfl|rfl
  ·exact .atom ⟨by decide,by decide⟩
  ·exact .atom trivial
 ·simp at hn;rcases hn with rfl|rfl <;> (intro e;cases e)
 ·simp only[tkN,tkL,tkM,leafP]
  rfl
def ruleL (k:Nat):ByteArray:=if k=0 then rl0 else if k=1 then rl1 else if k=2 then rl2 else rl3
theorem Zth (k:Nat):∃r a,Says (ruleL k) (some r) a/\(k=0->r=none):=by
 unfold ruleL;split
 ·exact⟨_,_,says0,fun _=>rfl⟩
 split
 ·exact⟨_,_,says1,fun h=>absurd h (by assumption)⟩
 split
 ·exact⟨_,_,says2,fun h=>absurd h (by assumption)⟩
 ·exact⟨_,_,says3,fun h=>absurd h (by assumption)⟩
theorem Zl9 (k:Nat):(ruleL k).size<=1000:=by
 unfold ruleL;split
 ·decide
 split
 ·decide
 split <;> decide
end Go.Proofs.YtnpfaajhgghpgaaGreatDoor.Ru
namespace Go.Proofs.YtnpfaajhgghpgaaGreatDoor
open Go.Shelf Go.RowKit Go.Maps
open Ru (Fz fzA fzX Nd holdsR RuleV ruleT Says errOf ErrAt TabAt)
structure Sm where
 cfg:Cfg
 g0:Int
 g1:Int
 g2:Int
 g3:Int
 g4:Int
 g5:Int
 sz:Int
 ev:Int
 lm:Int
 sl:Int
 mq:Int
 wh:Int
def smArr (x:Sm):Array Value:=#[.int .i64 x.cfg.half,.int .i64 x.cfg.width,.int .i64 x.cfg.gap,.int .i64 x.cfg.span,.int .i64 x.cfg.floor,.int .i64 x.cfg.crowd,.int .i64 x.g0,.int .i64 x.g1,.int .i64 x.g2,.int .i64 x.g3,.int .i64 x.g4,.int .i64 x.g5,.int .u8 x.sz,.int .u8 x.ev,.int .u8 x.lm,.int .u8 x.sl,.int .u8 x.mq,.int .u8 x.wh]
def smA (x:Sm):Value:=.agg (smArr x)
structure SmIn (x:Sm):Prop where
 sz:0<=x.sz/\x.sz<=255
 ev:0<=x.ev/\x.ev<=255
 lm:0<=x.lm/\x.lm<=255
 sl:0<=x.sl/\x.sl<=255
 mq:0<=x.mq/\x.mq<=255
 wh:0<=x.wh/\x.wh<=255
def ownS:ByteArray:=⟨#[111,119,110]⟩
structure SgL (x:Sm) (s:Sg):Prop where
 cfg:s.cfg=x.cfg
 slack:0<=s.slack/\s.slack<=5100
 idle:s.idle=0
 limit:0<=s.limit/\s.limit<=11
 every:0<=s.every/\s.every<=3
 own:s.own=ownS
 rule:s.rule=Ru.ruleL (x.wh.toNat % 4)
theorem SgL.ok {x:Sm}{s:Sg}(h:SgL x s)(hc:CfgOk x.cfg){r:Option Nd}{a:Nat}(hr:Says (Ru.ruleL (x.wh.toNat % 4)) (some r) a):SgOk s r:=
 ⟨by rw[h.cfg];exact hc,by have:=h.slack;omega,by have:=h.idle;omega,by have:=h.limit;omega,by have:=h.every;omega,by rw[h.own];decide,by rw[h.rule];exact Ru.Zl9 _,by rw[h.rule];exact⟨a,hr⟩⟩
theorem Zd2 {a b:Int}(ha:0<=a):a.tmod b=a % b:=Int.tmod_eq_emod_of_nonneg ha
end Go.Proofs.YtnpfaajhgghpgaaGreatDoor
namespace Go.Proofs.YtnpfaajhgghpgaaGreatDoor
open Go.Shelf Go.RowKit Go.Maps
open Ru (Fz fzA fzX Nd holdsR RuleV ruleT Says errOf ErrAt TabAt)
def plArr (A:Option Addr)(n cp:Nat)(x:Sm)(p i:ByteArray)(now:Int):Array Value:=#[.slice A n cp,.int .i64 x.cfg.half,.int .i64 x.cfg.width,.int .i64 x.cfg.gap,.int .i64 x.cfg.span,.int .i64 x.cfg.floor,.int .i64 x.cfg.crowd,.int .i64 x.g0,.int .i64 x.g1,.int .i64 x.g2,.int .i64 x.g3,.int .i64 x.g4,.int .i64 x.g5,.int .u8 x.sz,.int .u8 x.ev,.int .u8 x.lm,.int .u8 x.sl,.int .u8 x.mq,.int .u8 x.wh,.string p,.string i,.int .i64 now]
def plA (A:Option Addr)(n cp:Nat)(x:Sm)(p i:ByteArray)(now:Int):Value:=.agg (plArr A n cp x p i now)
structure FewOk (l:List Ev) (x:Sm) (p i:ByteArray):Prop where
 cfg:CfgOk x.cfg
 crowd:x.cfg.crowd<=12
 len:l.length<=20
 ok:∀e∈l,EvOk e
 p:p.size<=60
 i:i.size<=60
end Go.Proofs.YtnpfaajhgghpgaaGreatDoor
namespace Go.Proofs.YtnpfaajhgghpgaaGreatDoor
open Ru (Fz fzA fzX Nd holdsR)
def pS:ByteArray:=⟨#[112]⟩
def aS:ByteArray:=⟨#[97]⟩
def ev1:Ev:=⟨zzS,1,5,11,⟨#[]⟩,aS,0,noneT⟩
def ev2:Ev:=⟨zzS,2,5,12,⟨#[]⟩,aS,1,⟨#[]⟩⟩
theorem awk0:whyW [] pS aS 5 0 1 (some none)=1:=by kernel_rfl
theorem awk1:whyW [ev1] pS aS 5 0 1 (some none)=2:=by kernel_rfl
theorem awk2:whyW [ev1,ev2] pS aS 5 0 1 (some none)=0:=by kernel_rfl
theorem awc1:cureP [] 1 pS aS 5 0 = [ev1]:=by kernel_rfl
theorem awc2:cureP [ev1] 2 pS aS 5 0 = [ev2]:=by kernel_rfl
theorem awm1:mayB ev1=true:=by kernel_rfl
theorem Zc9:Closed []:=⟨List.Pairwise.nil,List.Pairwise.nil,fun e h=>by cases h⟩
theorem Zgb:Closed [ev1]:=⟨List.pairwise_singleton _ _,List.pairwise_singleton _ _,fun e h=>Or.inr (fun ⟨f,hf,hk,_⟩=>by
 obtain rfl:=List.mem_singleton.1 hf;exact absurd hk (by decide))⟩
theorem top1:OnTop [] [ev1]:=by
 have:=Zb0 (y:=1) (p:=pS) (i:=aS) (now:=5) (crowd:=0) Zc9 (fun e h=>by cases h)
 rwa [awc1]at this
theorem top2:OnTop [ev1] [ev2]:=by
 have:=Zb0 (y:=2) (p:=pS) (i:=aS) (now:=5) (crowd:=0) Zgb (fun e h=>by rw[List.mem_singleton.1 h];exact awm1)
 rwa [awc2]at this
theorem Zio:SortedE [ev1,ev2]:=List.pairwise_cons.2 ⟨fun e h=>by rw[List.mem_singleton.1 h];decide,List.pairwise_singleton _ _⟩
theorem an1 {fm:Ev->ByteArray}{E:List Ev}(h:AnewIs fm ([]++[ev1]) E):E = [ev1]:=Za3 h.sorted (List.pairwise_singleton _ _) (fun e=>by rw[Zbq Zc9 top1 h];simp)
theorem an2 {fm:Ev->ByteArray}{E:List Ev}(h:AnewIs fm ([ev1]++[ev2]) E):E = [ev1,ev2]:=Za3 h.sorted Zio (fun e=>by rw[Zbq Zgb top2 h];simp)
theorem top12:OnTop [] ([ev1]++[ev2]):=top1.app (E:=[ev1]) (fun e=>by simp) top2
theorem an12 {fm:Ev->ByteArray}{E:List Ev}(h:AnewIs fm ([]++([ev1]++[ev2])) E):E = [ev1,ev2]:=Za3 h.sorted Zio (fun e=>by rw[Zbq Zc9 top12 h];simp)
theorem Zjq {fm:Ev->ByteArray}{l:List (Nat×List Ev)}{E':List Ev}(h:ChainP fm pS aS 5 0 1 (some none) [] l E'):l = [(1,[ev1]),(2,[ev2])]:=by
 cases h with
 | stop h=>rw[awk0]at h;cases h
 | none h h0 hc=>
  rw[awk0]at h;subst h;rw[awc1]at hc;cases hc
 | more h h0 hc hne hE ht=>
  rw[awk0]at h;subst h;rw[awc1]at hc;subst hc;obtain rfl:=an1 hE;cases ht with
  | stop h=>rw[awk1]at h;cases h
  | none h h0 hc=>
   rw[awk1]at h;subst h;rw[awc2]at hc;cases hc
  | more h h0 hc hne hE ht=>
   rw[awk1]at h;subst h;rw[awc2]at hc;subst hc;obtain rfl:=an2 hE;cases ht with
   | stop h=>rfl
   | none h h0 hc=>rw[awk2]at h;exact absurd h.symm h0
   | more h h0 hc hne hE ht=>rw[awk2]at h;exact absurd h.symm h0
theorem Zmb {fm:Ev->ByteArray}{E:List Ev}(h:AnewIs fm ([]++evsC [(1,[ev1]),(2,[ev2])]) E):whyW E pS aS 5 0 1 (some none)=0:=by
 obtain rfl:=an12 h;exact awk2
end Go.Proofs.YtnpfaajhgghpgaaGreatDoor

set_option linter.unusedVariables false
set_option maxHeartbeats 8000000
set_option maxRecDepth 100000
namespace Go.Proofs.YtnpfaajhgghpgaaGreatDoor
open Go.Shelf Go.RowKit Go.Maps
open Ru (Fz fzA fzX Nd holdsR RuleV ruleT Says errOf ErrAt TabAt)
section
variable {P : Program}
theorem Zel {ops:Array Oper}{rest:List Oper}{o:Oper}{a:Act}{w:World}{Q:Exit->Act->World->Prop}(hw:Region.wanted o (yielded ops a.tmps)=true)(ty:TypeId)(x:Operand)(ho:o.op = .load ty x)
  (g:Nat) (hx:a.eval x = .pointer (some ⟨g,0,none⟩)) (t:TypeId) (cs:Array Value) (fr:Nat×Nat) (d:TypeDesc) (hg:w.heap[g]? = some (.cells cs t fr))
  (hu:P.underlying ty=some d) (hd:(match d with | .struct _ | .array _ _=>true|_=>false)=true) (hi:(P.info? ty).map (·.size)=some cs.size)
  (h:wpList P ops Q rest (a.put o.dst (.agg cs)) w):wpList P ops Q (o::rest) a w:=by
 unfold wpList;rw[if_pos hw];exact Or.inl (wp_load_row ty x ho g hx t cs fr d hg hu hd hi h)
end
def awC:Cfg:=⟨1,1,0,1,0,0⟩
def awG:Sg:=⟨awC,0,0,0,0,0,0,0,0,0,0,0,0,0,⟨#[]⟩,ownS,0⟩
theorem Zk9:CfgOk awC:=by constructor <;> decide
theorem Zru:SgOk awG none:=⟨Zk9,by decide,by decide,by decide,by decide,by decide,by decide,⟨_,Ru.says0⟩⟩
theorem Zot {us:List (Nat×Value)}{w:World}(h:ChsIn w us [(1,[ev1]),(2,[ev2])]):∃A1 c1 A2 c2,us = [(1,.slice A1 1 c1),(2,.slice A2 1 c2)]:=by
 obtain⟨h1,h2⟩:=h
 match us,h1 with
 | [u,v],_=>
  obtain⟨e1,A1,c1,e2,_⟩:=h2 0 u (1,[ev1]) rfl rfl;obtain⟨e3,A2,c2,e4,_⟩:=h2 1 v (2,[ev2]) rfl rfl;obtain⟨u1,u2⟩:=u;obtain⟨v1,v2⟩:=v;dsimp only at e1 e2 e3 e4;subst e1 e2 e3 e4;exact⟨A1,c1,A2,c2,rfl⟩
end Go.Proofs.YtnpfaajhgghpgaaGreatDoor
namespace Go.Proofs.YtnpfaajhgghpgaaGreatDoor
open Go.Shelf Go.RowKit Go.Maps
open Ru (Fz fzA fzX Nd holdsR RuleV ruleT Says errOf ErrAt TabAt)
section
variable {P : Program}
theorem run_loadVar_at (w:World)(g off:Nat)(ty:TypeId)(cs:Array Value)(d:TypeDesc)(hg:∀(j:Nat) v,cs[j]? = some v->w.cell? ⟨g,off+j,none⟩=some v)
  (hu:P.underlying ty=some d) (hd:(match d with | .struct _ | .array _ _=>true|_=>false)=true) (hi:(P.info? ty).map (·.size)=some cs.size) :
  (loadVar ty ⟨g,off,none⟩).run P w = .ok (.agg cs) w:=by
 have hl:(loadCells ⟨g,off,none⟩ cs.toList.length).run P w = .ok cs.toList.toArray w:=
  run_loadCells_list (P:=P) w ⟨g,off,none⟩ cs.toList (fun j v hv=>by
   rw[at_add];exact hg j v (by simpa using hv))
 cases hq:P.info? ty with
 | none=>simp[hq]at hi
 | some i=>
  have hs:i.size=cs.size:=by simpa [hq] using hi
  have hagg:(isAgg ty).run P w = .ok true w:=by
   unfold isAgg;rw[Sem.run_bind,run_underlying hu w];cases d <;> simp_all
  simp only[Array.length_toList,Array.toArray_toList]at hl;simp[loadVar,Sem.run_bind,hagg,sizeOf,typeInfo,hq,hs,hl]
theorem wpList_load_at {ops:Array Oper}{rest:List Oper}{o:Oper}{a:Act}{w:World}{Q:Exit->Act->World->Prop}(hgd:o.guard=none)(ty:TypeId)(x:Operand)(ho:o.op = .load ty x)
  (g off:Nat) (hx:a.eval x = .pointer (some ⟨g,off,none⟩)) (cs:Array Value) (hg:∀(j:Nat) v,cs[j]? = some v->w.cell? ⟨g,off+j,none⟩=some v) {d:TypeDesc}
  (hu:P.underlying ty=some d) (hd:(match d with | .struct _ | .array _ _=>true|_=>false)=true) (hi:(P.info? ty).map (·.size)=some cs.size)
  (h:wpList P ops Q rest (a.put o.dst (.agg cs)) w):wpList P ops Q (o::rest) a w:=by
 refine wpList_plain hgd fun K hK=>?_;unfold Oper.wp execOp;simp only[ho,hx,Instr.loadAt,Instr.sureAddr,Sem.run_bind,Sem.run_pure,Result.andThen_ok,run_loadVar_at w g off ty cs d hg hu hd hi];exact hK _ _ h
end
structure PlayIn (w:World) (A:Option Addr) (n cp:Nat) (l:List Ev) (x:Sm) (p i:ByteArray) (now:Int):Prop where
 arg:EvArg w A n cp l
 lib:Lb2 w
 sm:SmIn x
 p:p.size<=140737488355328
 i:i.size<=140737488355328
 now:InR now
end Go.Proofs.YtnpfaajhgghpgaaGreatDoor
namespace Go.Proofs.YtnpfaajhgghpgaaGreatDoor
open Go.ChangeShapes Go.WideShapes Go.RowKit
section
variable {H : Type} {enc : TypeId × Value -> H} {w : World} {base : Nat} {spare : Nat -> Bool} {held : Bool}
theorem trod_array6 {P:Program}{t e:TypeId}{fuel:Nat}{c0 c1 c2 c3 c4 c5:Value}{x:DataW H×List MemPlace}(ht:P.underlying t=some (.array 6 e))(hce:P.cellsOf e=1)
  (h:DataW.trod enc P w base spare held fuel t [c0,c1,c2,c3,c4,c5]=some x) :
  ∃y0 y1 y2 y3 y4 y5 n,DataW.trod enc P w base spare held n e [c0]=some y0/\DataW.trod enc P w base spare held n e [c1]=some y1/\DataW.trod enc P w base spare held n e [c2]=some y2/\DataW.trod enc P w base spare held n e [c3]=some y3/\DataW.trod enc P w base spare held n e [c4]=some y4/\DataW.trod enc P w base spare held n e [c5]=some y5:=by
 cases fuel with
 | zero=>simp[DataW.trod]at h
 | succ n=>
  unfold DataW.trod at h;rw[ht]at h;have r6:List.range 6 = [0,1,2,3,4,5]:=rfl;simp[r6,hce]at h;obtain⟨_,h⟩:=h;cases h0:DataW.trod enc P w base spare held n e [c0] with
  | none=>simp[h0]at h
  | some y0=>
   cases h1:DataW.trod enc P w base spare held n e [c1] with
   | none=>simp[h0,h1]at h
   | some y1=>
    cases h2:DataW.trod enc P w base spare held n e [c2] with
    | none=>simp[h0,h1,h2]at h
    | some y2=>
     cases h3:DataW.trod enc P w base spare held n e [c3] with
     | none=>simp[h0,h1,h2,h3]at h
     | some y3=>
      cases h4:DataW.trod enc P w base spare held n e [c4] with
      | none=>simp[h0,h1,h2,h3,h4]at h
      | some y4=>
       cases h5:DataW.trod enc P w base spare held n e [c5] with
       | none=>simp[h0,h1,h2,h3,h4,h5]at h
       | some y5=>exact⟨y0,y1,y2,y3,y4,y5,n,h0,h1,h2,h3,h4,h5⟩
theorem list22 {α:Type}{l:List α}(h:l.length=22):∃a0 a1 a2 a3 a4 a5 a6 a7 a8 a9 a10 a11 a12 a13 a14 a15 a16 a17 a18 a19 a20 a21,l = [a0,a1,a2,a3,a4,a5,a6,a7,a8,a9,a10,a11,a12,a13,a14,a15,a16,a17,a18,a19,a20,a21]:=by
 match l,h with
 | [a0,a1,a2,a3,a4,a5,a6,a7,a8,a9,a10,a11,a12,a13,a14,a15,a16,a17,a18,a19,a20,a21],_=>exact⟨a0,a1,a2,a3,a4,a5,a6,a7,a8,a9,a10,a11,a12,a13,a14,a15,a16,a17,a18,a19,a20,a21,rfl⟩
theorem some_getN {α:Type}{l:List α}{i n:Nat}(h:l.length=n)(hi:i<n):∃y,l[i]? = some y:=⟨_,List.getElem?_eq_getElem (by omega)⟩
theorem byte_of {m:Int}(h:Lit.wf (.int .u8 m)):0<=m/\m<=255:=by
 simp[Lit.wf,IntKind.min,IntKind.max,IntKind.signed,IntKind.bits]at h;omega
end
end Go.Proofs.YtnpfaajhgghpgaaGreatDoor
namespace Go.Proofs.YtnpfaajhgghpgaaGreatDoor
open Go.Shelf Go.RowKit Go.Maps
open Ru (Fz fzA fzX Nd holdsR RuleV ruleT Says errOf ErrAt TabAt)
theorem WhOf.parts {E:List Ev}{c:Cfg}{p i:ByteArray}{now:Int}{r:Option Nd}{l:List (Nat×List Ev)}{E2:List Ev}(hch:ChainP fmtB p i now c.crowd c.span (some r) E l E2)(hE:WnE 200 E)(hcr:c.crowd<=12)(ht:toldB p i now=true):ChainOk p i now c.crowd c.span (some r) 0 E l E2:=by
 obtain⟨hp,hi,hn1,hn2⟩:=Zek ht;exact Zqz hp hi ⟨hn1,hn2⟩ hcr hch 0 (by omega) (by omega) ⟨hE.closed,hE.ok,by have:=hE.few;omega⟩
theorem ev_size8:(Tryz.prog.info? 59).map (·.size)=some 8:=by kernel_rfl
end Go.Proofs.YtnpfaajhgghpgaaGreatDoor
namespace Go.Proofs.YtnpfaajhgghpgaaGreatDoor
open Go.Shelf Go.RowKit Go.Maps
open Ru (Fz fzA fzX Nd holdsR RuleV ruleT Says errOf ErrAt TabAt)
end Go.Proofs.YtnpfaajhgghpgaaGreatDoor
namespace Go.Proofs.YtnpfaajhgghpgaaGreatDoor
open Go.Shelf Go.RowKit Go.Maps
open Ru (Fz fzA fzX Nd holdsR RuleV ruleT Says errOf ErrAt TabAt)
end Go.Proofs.YtnpfaajhgghpgaaGreatDoor

set_option linter.unusedVariables false
set_option maxHeartbeats 8000000
set_option maxRecDepth 100000
namespace Go.Proofs.YtnpfaajhgghpgaaGreatDoor
open Go.Shelf Go.RowKit Go.Maps
open Ct (It St it0 st0 atP takesB catB stepSt rowOf uptoP ofN rowStep Zc3 itA toldP)
theorem stepSt_name (s:St)(e:Ev):(stepSt s e).item.name=s.item.name:=by unfold stepSt;split;rfl;split <;> rfl
def rst (l:List Ev)(nm:ByteArray)(t:Int):Option St:=(rowOf (l.filter fun e=>decide (e.tick<=t)) nm).getLast?
theorem rst_snoc (l:List Ev)(x:Ev)(nm:ByteArray)(t:Int):rst (l++[x]) nm t=if x.item=nm/\x.tick<=t then some (stepSt ((rst l nm t).getD (st0 nm)) x) else rst l nm t:=by
 unfold rst;rw[List.filter_append];by_cases h1:x.tick<=t
 ·rw[List.filter_cons_of_pos (by simpa using h1),List.filter_nil,Zc3];by_cases h2:x.item=nm
  ·rw[if_pos h2,if_pos ⟨h2,h1⟩,h2.symm];unfold rowStep;rw[List.getLast?_concat]
  ·rw[if_neg h2,if_neg (fun h=>h2 h.1)]
 ·rw[List.filter_cons_of_neg (by simpa using h1),List.filter_nil,List.append_nil,if_neg (fun h=>h1 h.2)]
theorem fold_name (n:ByteArray)(l:List Ev)(h:∀e∈l,e.item=n):∀r:List St,(∀s∈r,s.item.name=n)->∀s∈l.foldl rowStep r,s.item.name=n:=by
 induction l with
 | nil=>intro r hr;exact hr
 | cons e l ih=>
  intro r hr;rw[List.foldl_cons];refine ih (fun x hx=>h x (List.mem_cons_of_mem _ hx)) _ (fun s hs=>?_);unfold rowStep at hs;rcases List.mem_append.1 hs with hs|hs
  ·exact hr s hs
  ·obtain rfl:s=_:=by simpa using hs
   rw[stepSt_name];cases hl:r.getLast? with
   | none=>exact h e (by simp)
   | some y=>exact hr y (List.mem_of_getLast? hl)
theorem rst_name {l:List Ev}{nm:ByteArray}{t:Int}{s:St}(h:rst l nm t=some s):s.item.name=nm:=by
 unfold rst at h;exact fold_name nm _ (fun e he=>of_decide_eq_true (List.mem_filter.1 he).2) [] (fun s hs=>by cases hs) s (List.mem_of_getLast? h)
def rx (o:Option St):It:=(o.map (·.item)).getD it0
def rb (o:Option St):Bool:=(o.map (·.isborn)).getD false
theorem set_name {l:List Ev}{nm:ByteArray}{t:Int}:(itArr (rx (rst l nm t))).setIfInBounds 0 (.string nm)=itArr ((rst l nm t).getD (st0 nm)).item:=by
 cases h:rst l nm t with
 | none=>simp[rx,itArr,it0,st0]
 | some s=>
  have:=rst_name h;simp[rx,itArr,this]
theorem rb_born (o:Option St)(nm:ByteArray):rb o=(o.getD (st0 nm)).isborn:=by
 cases o <;> rfl
theorem rstep12 {s:St}{x:Ev}(h:x.kind=12):(itArr s.item).setIfInBounds 3 (.int .i64 x.value)=itArr (stepSt s x).item:=by
 simp[itArr,stepSt,h]
theorem rstep13 {s:St}{x:Ev}(h:x.kind=13):(itArr s.item).setIfInBounds 6 (.bool false)=itArr (stepSt s x).item:=by
 simp[itArr,stepSt,h]
theorem rstep11t {s:St}{x:Ev}(h:x.kind=11)(hb:s.isborn=true):((((itArr s.item).setIfInBounds 6 (.bool true)).setIfInBounds 1 (.string (headP x.text))).setIfInBounds 2 (.string (restP x.text))).setIfInBounds 4 (.int .i64 x.value)=itArr (stepSt s x).item:=by
 simp[itArr,stepSt,h,hb]
theorem rstep11f {s:St}{x:Ev}(h:x.kind=11)(hb:s.isborn=false):(((((itArr s.item).setIfInBounds 6 (.bool true)).setIfInBounds 1 (.string (headP x.text))).setIfInBounds 2 (.string (restP x.text))).setIfInBounds 4 (.int .i64 x.value)).setIfInBounds 5 (.int .i64 x.tick)=itArr (stepSt s x).item:=by
 simp[itArr,stepSt,h,hb]
theorem step_born {s:St}{x:Ev}:(stepSt s x).isborn=if x.kind=11 then true else s.isborn:=by
 unfold stepSt;split
 ·rfl
 ·split <;> rfl
theorem cell_drew' {w:World}{p:Addr}{u:Value}(h:w.cell? p=some u):w.drew.cell? p=some u:=h
def rtoldP (o:Option St):Value:=.tuple #[itA (rx o),.bool o.isSome]
end Go.Proofs.YtnpfaajhgghpgaaGreatDoor
namespace Go.Proofs.YtnpfaajhgghpgaaGreatDoor
open Go.Shelf Go.RowKit Go.Maps
theorem eq_ev_self (a:ByteArray)(b c d:Int)(e f:ByteArray)(g:Int)(h:ByteArray)(w:World) :
  (Op.equalIn 10000 59 (.agg #[.string a,.int .i64 b,.int .i64 c,.int .i64 d,.string e,.string f,.int .i64 g,.string h]) (.agg #[.string a,.int .i64 b,.int .i64 c,.int .i64 d,.string e,.string f,.int .i64 g,.string h])).run Tryz.prog w = .ok true w:=by
 simp[go_sem]
end Go.Proofs.YtnpfaajhgghpgaaGreatDoor

set_option linter.unusedVariables false
set_option maxHeartbeats 8000000
set_option maxRecDepth 100000
namespace Go.Proofs.YtnpfaajhgghpgaaGreatDoor
open Go.Shelf Go.RowKit Go.Maps
theorem one_rd (w:World)(r:Rd)(t:TypeId):RowIn (w.alloc (.cells (rdAr r) t)) (w.heap.size+1) 9 (some ⟨w.heap.size,0,none⟩) 1 (rdC r):=Ztp w r.e r.A r.n r.c t
def ownR (xl:List Rd)(p:ByteArray):List Rd:=xl.filter fun r=>decide (r.e.person=p)
theorem ownR_snoc (xl:List Rd)(r:Rd)(p:ByteArray):ownR (xl++[r]) p=if r.e.person=p then ownR xl p++[r] else ownR xl p:=by
 unfold ownR;rw[List.filter_append];by_cases h:r.e.person=p <;> simp[h]
def lstF (i t:ByteArray)(a b:Int)(acc:Int)(r:Rd):Int:=if r.e.item=i/\r.e.text=t/\(r.e.kind=a\/r.e.kind=b) then r.e.kind else acc
def lstK (l:List Rd)(i t:ByteArray)(a b:Int):Int:=l.foldl (lstF i t a b) (-1)
theorem lstK_snoc (l:List Rd)(r:Rd)(i t:ByteArray)(a b:Int):lstK (l++[r]) i t a b=lstF i t a b (lstK l i t a b) r:=by unfold lstK;rw[List.foldl_append];rfl
def FanO (l:List Rd)(i:ByteArray)(out:List ByteArray):Prop:=out.Pairwise ltN/\∀y,y∈out↔∃r∈l,r.e.item=i/\0<worthP r.e/\r.e.person=y
theorem FanO.off {l:List Rd}{i:ByteArray}{out:List ByteArray}(h:FanO l i out){r:Rd}(hr:¬(r.e.item=i/\0<worthP r.e)):FanO (l++[r]) i out:=⟨h.1,fun y=>by
 rw[h.2 y]
 constructor
 ·rintro ⟨x,hx,h1⟩;exact⟨x,List.mem_append_left _ hx,h1⟩
 ·rintro ⟨x,hx,h1,h2,h3⟩;rcases List.mem_append.1 hx with hx|hx
  ·exact⟨x,hx,h1,h2,h3⟩
  ·simp at hx;subst hx;exact absurd ⟨h1,h2⟩ hr⟩
theorem FanO.on {l:List Rd}{i:ByteArray}{out out':List ByteArray}(h:FanO l i out){r:Rd}(hr:r.e.item=i/\0<worthP r.e)(ho:out'.Pairwise ltN/\∀y,y∈out'↔y∈out\/y=r.e.person):FanO (l++[r]) i out':=⟨ho.1,fun y=>by
 rw[ho.2 y,h.2 y]
 constructor
 ·rintro (⟨x,hx,h1⟩|rfl)
  ·exact⟨x,List.mem_append_left _ hx,h1⟩
  ·exact⟨r,by simp,hr.1,hr.2,rfl⟩
 ·rintro ⟨x,hx,h1,h2,h3⟩;rcases List.mem_append.1 hx with hx|hx
  ·exact Or.inl ⟨x,hx,h1,h2,h3⟩
  ·simp at hx;subst hx;exact Or.inr h3.symm⟩
def PutTo (l:List ByteArray)(s:ByteArray)(k:Nat)(done:Bool)(out:List ByteArray):Prop:=
 out.Pairwise ltN/\(done=false->out=l.take k/\∀x∈l.take k,ltN x s)/\(done=true->(∀y,y∈out↔y∈l.take k\/y=s)/\∀j x,k<=j->l[j]? = some x->ltN s x)
theorem rise_at {l:List ByteArray}(h:l.Pairwise ltN){i j:Nat}{x y:ByteArray}(hij:i<j)(hx:l[i]? = some x)(hy:l[j]? = some y):ltN x y:=by
 obtain⟨hi,rfl⟩:=List.getElem?_eq_some_iff.1 hx;obtain⟨hj,rfl⟩:=List.getElem?_eq_some_iff.1 hy;exact List.pairwise_iff_getElem.1 h i j hi hj hij
theorem take_lt {l:List ByteArray}(h:l.Pairwise ltN){k:Nat}{x y:ByteArray}(hx:l[k]? = some x)(hy:y∈l.take k):ltN y x:=by
 obtain⟨i,hi⟩:=List.mem_iff_getElem?.1 hy;rw[List.getElem?_take]at hi;split at hi
 ·rename_i hik;exact rise_at h hik hi hx
 ·cases hi
theorem snoc_rise {l:List ByteArray}(h:l.Pairwise ltN){x:ByteArray}(hx:∀y∈l,ltN y x):(l++[x]).Pairwise ltN:=by
 rw[List.pairwise_append];exact⟨h,List.pairwise_singleton _ _,fun a ha b hb=>by simp at hb;subst hb;exact hx a ha⟩
section
variable {l : List ByteArray} {s x : ByteArray} {k : Nat} {out : List ByteArray}
theorem PutTo.on (h:PutTo l s k true out)(hr:l.Pairwise ltN)(hx:l[k]? = some x):PutTo l s (k+1) true (out++[x]):=by
 obtain⟨h1,_,h3⟩:=h;obtain⟨h4,h5⟩:=h3 rfl;refine⟨snoc_rise h1 (fun y hy=>?_),fun h=>(by cases h),fun _=>⟨fun y=>?_,fun j z hj hz=>h5 j z (by omega) hz⟩⟩
 ·rcases (h4 y).1 hy with h6|rfl
  ·exact take_lt hr hx h6
  ·exact h5 k x (zr _) hx
 ·have htk:l.take (k+1)=l.take k++[x]:=by rw[List.take_add_one,hx];rfl
  rw[List.mem_append,h4,htk,List.mem_append,List.mem_singleton]
  constructor
  ·rintro ((h|h)|h)
   ·exact Or.inl (Or.inl h)
   ·exact Or.inr h
   ·exact Or.inl (Or.inr h)
  ·rintro ((h|h)|h)
   ·exact Or.inl (Or.inl h)
   ·exact Or.inr h
   ·exact Or.inl (Or.inr h)
theorem PutTo.here (h:PutTo l s k false out)(hr:l.Pairwise ltN)(hx:l[k]? = some x)(hsx:ltN s x):PutTo l s (k+1) true ((out++[s])++[x]):=by
 obtain⟨h1,h2,_⟩:=h;obtain⟨rfl,h3⟩:=h2 rfl;refine PutTo.on ⟨snoc_rise h1 h3,fun h=>(by cases h),fun _=>⟨fun y=>by rw[List.mem_append,List.mem_singleton],fun j z hj hz=>?_⟩⟩ hr hx;by_cases e:j=k
 ·subst e;rw[hx]at hz;cases hz;exact hsx
 ·exact ltN_trans hsx (rise_at hr (by omega) hx hz)
theorem PutTo.past (h:PutTo l s k false out)(hr:l.Pairwise ltN)(hx:l[k]? = some x)(hsx:¬ltN s x)(hne:x≠s):PutTo l s (k+1) false (out++[x]):=by
 obtain⟨h1,h2,_⟩:=h;obtain⟨rfl,h3⟩:=h2 rfl;have htk:l.take (k+1)=l.take k++[x]:=by rw[List.take_add_one,hx];rfl
 refine⟨snoc_rise h1 (fun y hy=>take_lt hr hx hy),fun _=>⟨htk.symm,fun y hy=>?_⟩,fun h=>(by cases h)⟩;rw[htk,List.mem_append,List.mem_singleton]at hy;rcases hy with hy|rfl
 ·exact h3 y hy
 ·exact ltN_of hsx (Ne.symm hne)
end
end Go.Proofs.YtnpfaajhgghpgaaGreatDoor
namespace Go.Proofs.YtnpfaajhgghpgaaGreatDoor
open Go.Shelf Go.RowKit Go.Maps
open Ct (It St it0 st0 atP takesB catB stepSt rowOf uptoP ofN rowStep itA toldP Rising Zck Ze9)
theorem nil_of {t:ByteArray}(h:t.toList = []):t=⟨#[]⟩:=of_decide_eq_true (by rw[<-Zcj,h];rfl)
theorem wordE_congr {f g:Ev->Bool}{a b:Int}{l:List Ev}(h:∀e∈l,(e.kind=a\/e.kind=b)->f e=g e):wordE f a b l=wordE g a b l:=by
 refine snocI (p:=fun l=>(∀e∈l,(e.kind=a\/e.kind=b)->f e=g e)->wordE f a b l=wordE g a b l) (fun _=>rfl) (fun l x ih h=>?_) l h;have ih':=ih (fun e he=>h e (List.mem_append_left _ he));have hx:=h x (by simp);rw[Zbc,Zbc,ih'];by_cases hk:x.kind=a\/x.kind=b
 ·rw[hx hk]
 ·have d:decide (x.kind=a\/x.kind=b)=false:=decide_eq_false hk;rw[d,Bool.and_false,Bool.and_false]
theorem lst_word (p i t:ByteArray)(a b:Int)(xl:List Rd):lstK (ownR xl p) i t a b=match wordE (fun e=>decide (e.person=p/\e.item=i/\e.text=t)) a b (xl.map (·.e)) with
  | none=>-1
  | some true=>a
  | some false=>b:=by
 refine snocI (p:=fun xl=>lstK (ownR xl p) i t a b=match wordE (fun e=>decide (e.person=p/\e.item=i/\e.text=t)) a b (xl.map (·.e)) with
  | none=>-1
  | some true=>a
  | some false=>b) rfl (fun l x ih=>?_) xl
 rw[List.map_append,List.map_singleton,Zbc,ownR_snoc];by_cases hp:x.e.person=p
 ·rw[if_pos hp,lstK_snoc];unfold lstF;by_cases hc:x.e.item=i/\x.e.text=t/\(x.e.kind=a\/x.e.kind=b)
  ·rw[if_pos hc,if_pos (by simp[hp,hc.1,hc.2.1,hc.2.2])];by_cases h1:x.e.kind=a
   ·simp[h1]
   ·rw[decide_eq_false h1];exact hc.2.2.resolve_left h1
  ·rw[if_neg hc,if_neg (fun h=>hc ?_)]
   ·exact ih
   ·rw[Bool.and_eq_true]at h;have h1:=of_decide_eq_true h.1;exact⟨h1.2.1,h1.2.2,of_decide_eq_true h.2⟩
 ·rw[if_neg hp,if_neg (fun h=>hp ?_)]
  ·exact ih
  ·rw[Bool.and_eq_true]at h;exact (of_decide_eq_true h.1).1
theorem lst_hit {p i t:ByteArray}{a b:Int}(hab:a≠b)(ha:0<=a)(xl:List Rd):decide (lstK (ownR xl p) i t a b=a)=decide (wordE (fun e=>decide (e.person=p/\e.item=i/\e.text=t)) a b (xl.map (·.e))=some true):=by
 rw[lst_word];cases wordE (fun e=>decide (e.person=p/\e.item=i/\e.text=t)) a b (xl.map (·.e)) with
 | none=>simp;omega
 | some v=>cases v <;> simp[Ne.symm hab]
theorem crE_may {es:List Ev}(h:∀e∈es,mayB e=true):∀e∈crE es,mayB e=true:=fun e he=>h e (List.mem_filter.1 he).1
theorem last_hid {es:List Ev}(hm:∀e∈es,mayB e=true){xl:List Rd}(hx:xl.map (·.e)=crE es)(p i:ByteArray):decide (lstK (ownR xl p) i ⟨#[]⟩ 5 6=5)=(hidO (rowsW es) p i).getD false:=by
 rw[lst_hit (by omega) (by omega),hx,Zdg,wordE_congr (g:=fun e=>decide (e.person=p/\e.item=i))]
 ·cases wordE (fun e=>decide (e.person=p/\e.item=i)) 5 6 (crE es) with
  | none=>rfl
  | some v=>cases v <;> rfl
 ·intro e he hk;have h1:=(Zas (crE_may hm e he)).2.2.2;have h2:e.text=⟨#[]⟩:=by
   unfold kindB at h1;rcases hk with hk|hk <;> simp[hk,empB]at h1 <;> exact nil_of h1.2.2.2
  simp[h2]
theorem last_mut {es:List Ev}(hm:∀e∈es,mayB e=true){xl:List Rd}(hx:xl.map (·.e)=crE es)(p t:ByteArray):decide (lstK (ownR xl p) ⟨#[]⟩ t 9 10=9)=decide (mutO (rowsW es) p t=some true):=by
 rw[lst_hit (by omega) (by omega),hx,Zdh,wordE_congr (g:=fun e=>decide (e.person=p/\e.text=t))];intro e he hk;have h1:=(Zas (crE_may hm e he)).2.2.2;have h2:e.item=⟨#[]⟩:=by
  unfold kindB at h1;rcases hk with hk|hk <;> simp[hk,empB]at h1 <;> exact nil_of h1.2.1
 simp[h2]
theorem nodup_le:∀(a b:List ByteArray),a.Nodup->(∀x∈a,x∈b)->a.length<=b.length
 | [],_,_,_=>Nat.zero_le _
 | x::a,b,hn,hs=>by
  rw[List.nodup_cons]at hn;have hx:=hs x (by simp);have h1:=nodup_le a (b.filter fun y=>decide (y≠x)) hn.2 (fun y hy=>List.mem_filter.2 ⟨hs y (by simp[hy]),decide_eq_true (fun e=>hn.1 (by rw[<-e];exact hy))⟩);have h2:(b.filter fun y=>decide (y≠x)).length<b.length:=List.length_filter_lt_length_iff_exists.2 ⟨x,hx,by simp⟩;rw[List.length_cons];omega
theorem nodup_eq {a b:List ByteArray}(ha:a.Nodup)(hb:b.Nodup)(h:∀x,x∈a↔x∈b):a.length=b.length:=Nat.le_antisymm (nodup_le a b ha (fun x=>(h x).1)) (nodup_le b a hb (fun x=>(h x).2))
theorem fan_same {es:List Ev}{xl:List Rd}(hx:xl.map (·.e)=crE es){i:ByteArray}{out:List ByteArray}(h:FanO xl i out):out.length=fansN (rowsW es) i:=by
 refine nodup_eq (h.1.imp (fun hab e=>by subst e;exact ltN_irr _ hab)) (Zml (rowsW es) i).1 (fun y=>?_);rw[h.2 y,(Zml (rowsW es) i).2 y,Zsf,List.any_eq_true,<-hx]
 constructor
 ·rintro ⟨r,hr,h1,h2,h3⟩;exact⟨r.e,List.mem_map.2 ⟨r,hr,rfl⟩,by rw[decide_eq_true ⟨h3,h1⟩,decide_eq_true h2];rfl⟩
 ·rintro ⟨e,he,h1⟩;obtain⟨r,hr,rfl⟩:=List.mem_map.1 he;rw[Bool.and_eq_true]at h1;have h2:=of_decide_eq_true h1.1;exact⟨r,hr,h2.2,of_decide_eq_true h1.2,h2.1⟩
theorem crE_snoc (es:List Ev)(e:Ev):crE (es++[e])=if e.kind<11 then crE es++[e] else crE es:=by
 unfold crE;rw[List.filter_append];by_cases h:e.kind<11 <;> simp[h]
theorem sorted_rise {es:List Ev}(h:SortedE es):Rising (thgs es):=(Zau h isCat).imp (fun {a b} hab=>by
 rw[Zba]at hab;by_cases h3:cmpI a.tick b.tick=0
 ·have:=Ze6 h3;omega
 ·rw[if_neg h3]at hab;exact Int.le_of_lt (cI_lt.1 hab))
theorem ofN_app (a b:List Ev)(n:ByteArray):ofN (a++b) n=ofN a n++ofN b n:=by
 unfold ofN;rw[List.filter_append]
theorem foldl_pre (l:List Ev):∀r:List St,∃s,l.foldl rowStep r=r++s/\s.map (·.tick)=l.map (·.tick):=by
 induction l with
 | nil=>intro r;exact⟨[],by simp,rfl⟩
 | cons e l ih=>
  intro r;rw[List.foldl_cons];obtain⟨s,h1,h2⟩:=ih (rowStep r e);refine⟨stepSt (r.getLast?.getD (st0 e.item)) e::s,by rw[h1];unfold rowStep;simp,by simp[h2,Ze9]⟩
theorem upto_app {r s:List St}{t:Int}(h1:∀x∈r,x.tick<=t)(h2:∀x∈s,t<x.tick):uptoP (r++s) t=r:=by
 induction r with
 | nil=>
  cases s with
  | nil=>rfl
  | cons x s=>
   have:=h2 x (by simp);simp only[uptoP,List.nil_append];rw[List.takeWhile_cons_of_neg (by simpa using this)]
 | cons x r ih=>
  have h0:=h1 x (by simp);simp only[uptoP,List.cons_append];rw[List.takeWhile_cons_of_pos (by simpa using h0)];have:=ih (fun y hy=>h1 y (List.mem_cons_of_mem _ hy));simp only[uptoP]at this;rw[this]
theorem rise_split {l:List Ev}(h:Rising l)(t:Int):∃b,l=(l.filter fun e=>decide (e.tick<=t))++b/\∀e∈b,t<e.tick:=by
 induction l with
 | nil=>exact⟨[],rfl,fun e he=>by cases he⟩
 | cons e l ih=>
  have hp:=List.pairwise_cons.1 h;by_cases he:e.tick<=t
  ·obtain⟨b,h1,h2⟩:=ih hp.2;refine⟨b,?_,h2⟩;rw[List.filter_cons_of_pos (by simpa using he),List.cons_append,<-h1]
  ·refine⟨e::l,?_,fun x hx=>?_⟩
   ·have:(e::l).filter (fun e=>decide (e.tick<=t)) = []:=by
     rw[List.filter_eq_nil_iff];intro x hx;rcases List.mem_cons.1 hx with rfl|hx
     ·simpa using he
     ·have:=hp.1 x hx;simp;omega
    rw[this];rfl
   ·rcases List.mem_cons.1 hx with rfl|hx
    ·omega
    ·have:=hp.1 x hx;omega
theorem row_in {es:List Ev}{n:ByteArray}{s:St}(h:s∈rowOf es n):∃e∈es,e.tick=s.tick:=by
 have h1:s.tick∈(rowOf es n).map (·.tick):=List.mem_map.2 ⟨s,h,rfl⟩;rw[Zck]at h1;obtain⟨e,he,h2⟩:=List.mem_map.1 h1;exact⟨e,(List.mem_filter.1 he).1,h2⟩
theorem at_ahead {l:List Ev}(h:Rising l)(n:ByteArray)(t:Int):atP l n t=((rowOf (l.filter fun e=>decide (e.tick<=t)) n).getLast?).map (·.item):=by
 obtain⟨b,h1,h2⟩:=rise_split h t;generalize hf:(l.filter fun e=>decide (e.tick<=t))=a at *;have ha:∀e∈a,e.tick<=t:=fun e he=>by rw[<-hf]at he;simpa using (List.mem_filter.1 he).2
 unfold atP;congr 1;rw[h1];unfold rowOf;rw[ofN_app,List.foldl_append];obtain⟨s,h3,h4⟩:=foldl_pre (ofN b n) ((ofN a n).foldl rowStep []);rw[h3,upto_app]
 ·intro x hx;obtain⟨e,he,h5⟩:=row_in (es:=a) (n:=n) hx;rw[<-h5];exact ha e he
 ·intro x hx;have h5:x.tick∈s.map (·.tick):=List.mem_map.2 ⟨x,hx,rfl⟩;rw[h4]at h5;obtain⟨e,he,h6⟩:=List.mem_map.1 h5;rw[<-h6];exact h2 e (List.mem_filter.1 he).1
theorem rx_at {l:List Ev}(h:Rising l)(n:ByteArray)(t:Int):rx (rst l n t)=(atP l n t).getD it0:=by
 rw[at_ahead h n t]
 rfl
end Go.Proofs.YtnpfaajhgghpgaaGreatDoor

set_option linter.unusedVariables false
set_option maxHeartbeats 8000000
set_option maxRecDepth 100000
namespace Go.Proofs.YtnpfaajhgghpgaaGreatDoor
open Go.Shelf Go.RowKit Go.Maps
open Ct (It St it0 st0 atP takesB catB stepSt rowOf uptoP ofN rowStep itA toldP Rising)
theorem rst_few {es:List Ev}(hs:SortedE es)(hok:∀e∈es,EvOk e)(n:ByteArray)(t:Int):(rx (rst (thgs es) n t)).tags.size<=300/\(rx (rst (thgs es) n t)).maker.size<=300:=by
 rw[rx_at (sorted_rise hs)];cases h:atP (thgs es) n t with
 | none=>exact⟨Nat.zero_le _,Nat.zero_le _⟩
 | some x=>
  rcases Zqx (m:=300) (fun e he=>(hok e he).1) (fun e he=>(hok e he).2.2.2.2) h with ⟨h1,h2,_⟩|⟨s,_,h1,h2,h3⟩
  ·show x.tags.size<=300/\x.maker.size<=300;rw[h1,h2];exact⟨Nat.zero_le _,Nat.zero_le _⟩
  ·show x.tags.size<=300/\x.maker.size<=300;rw[<-h1,<-h2];have:=Ze5 s;have:=Zip s;omega
theorem thgs_kind {es:List Ev}:∀e∈thgs es,e.kind=11\/e.kind=12\/e.kind=13:=fun e he=>of_decide_eq_true (Zax.1 he).2
theorem evf_len:∀l:List Ev,(l.flatMap evC).length=l.length*8
 | []=>rfl
 | x::l=>by rw[List.flatMap_cons,List.length_append,evf_len l,List.length_cons];show 8+_=_;omega
theorem evs_take {w:World}{B:Nat}{A:Option Addr}{l:List Ev}(h:EvsAt w B A l)(k:Nat)(hk:k<=l.length):EvsAt w B A (l.take k):=by
 refine⟨evf_len _,?_⟩;by_cases h0:k=0
 ·subst h0;exact Or.inl rfl
 ·obtain⟨g,o,hA,hg,hc⟩:=RowIn.at h (by omega);refine Or.inr ⟨g,o,hA,hg,fun j v hv=>hc j v ?_⟩;rw[<-List.take_append_drop k l,List.flatMap_append,List.getElem?_append_left (List.getElem?_eq_some_iff.1 hv).1];exact hv
end Go.Proofs.YtnpfaajhgghpgaaGreatDoor
namespace Go.Proofs.YtnpfaajhgghpgaaGreatDoor
open Go.Shelf Go.RowKit Go.Maps
open Ru (digW Zak)
theorem itoa_dig (n:Nat):itoaB (n:Int)=digW n:=by unfold itoaB digW;rw[Lib.itoa_nonneg]
def DigTo (m n:Nat)(s:ByteArray):Prop:=digW m=digW n++s
theorem DigTo.start (m:Nat):DigTo m m ⟨#[]⟩:=by
 unfold DigTo;apply ba_eq;simp[ByteArray.data_append]
theorem DigTo.next {m n:Nat}{s:ByteArray}(h:DigTo m n s)(hn:10<=n):DigTo m (n / 10) (⟨#[UInt8.ofNat (48+n % 10)]⟩++s):=by
 unfold DigTo at h ⊢;rw[h];apply ba_eq;simp only[ByteArray.data_append,Array.toList_append,Zak]
 conv=>lhs;rw[Lib.decDigits,dif_neg (by omega)]
 simp
theorem DigTo.fin {m n:Nat}{s:ByteArray}(h:DigTo m n s)(hn:n<10):digW m=⟨#[UInt8.ofNat (48+n)]⟩++s:=by
 unfold DigTo at h;rw[h];apply ba_eq;simp only[ByteArray.data_append,Array.toList_append,Zak];rw[Lib.decDigits,dif_pos hn]
theorem dig_small {n:Nat}(hn:n<=2000000000000):(digW n).size<=21:=by
 have:=Zee (n:=(n:Int)) ⟨by omega,by omega⟩
 rwa [itoa_dig]at this
theorem DigTo.few {m n:Nat}{s:ByteArray}(h:DigTo m n s)(hm:m<=2000000000000):s.size<=21:=by
 have h1:=dig_small hm;unfold DigTo at h;rw[h,ByteArray.size_append]at h1;omega
theorem one_back (w:World)(b:UInt8)(z:Int)(hz:z=(b.toNat:Int)):(convert 22 9 (.slice (some ⟨w.heap.size,0,none⟩) 1 1)).run Tryz.prog (w.alloc (.cells #[.int .u8 z] 5)) = .ok (.string ⟨#[b]⟩) (w.alloc (.cells #[.int .u8 z] 5)):=by
 subst hz;have HK:Blk (w.alloc (.cells #[.int .u8 (b.toNat:Int)] 5)) w.heap.size 5 #[.int .u8 (b.toNat:Int)]:=Blk.new _ _ _
 exact run_convert_bytes_back (P:=Tryz.prog) _ 22 9 5 ⟨w.heap.size,0,none⟩ 1 [b] Tryz.underlying22 Tryz.underlying5 Tryz.underlying9 (fun j hj=>by
  obtain rfl:j=0:=by simpa using hj
  exact HK.cell 0)
end Go.Proofs.YtnpfaajhgghpgaaGreatDoor

set_option linter.unusedVariables false
set_option maxHeartbeats 16000000
set_option maxRecDepth 100000
namespace Go.Proofs.YtnpfaajhgghpgaaGreatDoor
open Go.Shelf Go.RowKit Go.Maps
open Ru (digW Zak)
open Ct (It St it0 st0 atP takesB catB stepSt rowOf uptoP ofN rowStep itA toldP Rising)
def mutM (a:Bool)(lt:Int)(p m:ByteArray):List Ev:=if a then [⟨⟨#[]⟩,0,lt,10,p,⟨#[]⟩,0,m⟩] else []
theorem nS_dig (k:Nat):(⟨#[110,45]⟩++digW k:ByteArray)=nS k:=rfl
theorem cure_1 {E:List Ev}{p i:ByteArray}{now crowd:Int}{m t:ByteArray}{pr:Int}(h:((atP (thgs E) i now).getD it0).maker=m)(h2:((atP (thgs E) i now).getD it0).tags=t)(h3:((atP (thgs E) i now).getD it0).price=pr):cureL E 1 p i now crowd = [if m=⟨#[]⟩ then ⟨⟨#[]⟩,0,now,11,⟨#[]⟩,i,0,noneT⟩ else ⟨⟨#[]⟩,0,now,11,⟨#[]⟩,i,pr,m++⟨#[59]⟩++t⟩]:=by
 unfold cureL listE mkrP;rw[if_pos rfl,h,h2,h3]
theorem cure_2 {E:List Ev}{p i:ByteArray}{now crowd:Int}:cureL E 2 p i now crowd = [⟨⟨#[]⟩,0,now,12,⟨#[]⟩,i,1,⟨#[]⟩⟩]:=rfl
theorem cure_3 {E:List Ev}{p i:ByteArray}{now crowd:Int}{m:ByteArray}{a mu:Bool}{lt:Int}(h:((atP (thgs E) i now).getD it0).maker=m)(ha:(hidO (rowsW E) p i).getD false=a)(hm:decide (mutO (rowsW E) p m=some true)=mu)(hl:lateP E now=lt):cureL E 3 p i now crowd=hidL a lt p i++mutM mu lt p m:=by
 show unhideL E p i now=_;unfold unhideL mkrP hidL mutM;rw[h,ha,hl,<-hm];simp only[decide_eq_true_eq]
theorem cure_5 {E:List Ev}{p i:ByteArray}{now crowd nd:Int}{fn:Nat}{lt:Int}(hf:fansN (rowsW E) i=fn)(hn:crowd - (fn:Int)=nd)(hl:lateP E now=lt)(hb:nd<=1000):cureL E 5 p i now crowd=(newN E nd.toNat).map (fun k=>⟨⟨#[]⟩,0,lt,1,nS k,i,0,⟨#[]⟩⟩):=by
 show openL E i now crowd=_;unfold openL;rw[hf,hn,if_neg (by omega),<-hl]
 rfl
theorem cure_no {E:List Ev}{y:Nat}{p i:ByteArray}{now crowd:Int}(h:y=0\/y=4\/y=6):cureL E y p i now crowd = []:=by
 rcases h with rfl|rfl|rfl <;> rfl
def EvsR (w:World)(cs:List Ev)(e:Ending)(w':World):Prop:=∃A m c,e = .returned (.slice A m c)/\cs.length=m/\EvsAt w' w'.heap.size A cs/\Below w.heap.size w w'
end Go.Proofs.YtnpfaajhgghpgaaGreatDoor


/- A part of the joined base. -/
import Derived.Test.YtphmhbcimhlcjaaGreatDoorU36
set_option linter.unusedVariables false
set_option maxHeartbeats 8000000
set_option maxRecDepth 100000
namespace Go.Proofs.YtphmhbcimhlcjaaGreatDoor
open Go.Shelf Go.RowKit Go.Maps
open Ru (Fz fzA fzX Nd holdsR RuleV ruleT Says errOf ErrAt TabAt)
section
variable {P : Program}
theorem Zel {ops:Array Oper}{rest:List Oper}{o:Oper}{a:Act}{w:World}{Q:Exit->Act->World->Prop}(hw:Region.wanted o (yielded ops a.tmps)=true)(ty:TypeId)(x:Operand)(ho:o.op = .load ty x)
  (g:Nat) (hx:a.eval x = .pointer (some ⟨g,0,none⟩)) (t:TypeId) (cs:Array Value) (fr:Nat×Nat) (d:TypeDesc) (hg:w.heap[g]? = some (.cells cs t fr))
  (hu:P.underlying ty=some d) (hd:(match d with | .struct _ | .array _ _=>true|_=>false)=true) (hi:(P.info? ty).map (·.size)=some cs.size)
  (h:wpList P ops Q rest (a.put o.dst (.agg cs)) w):wpList P ops Q (o::rest) a w:=by
 unfold wpList;rw[if_pos hw];exact Or.inl (wp_load_row ty x ho g hx t cs fr d hg hu hd hi h)
end
def awC:Cfg:=⟨1,1,0,1,0,0⟩
def awG:Sg:=⟨awC,0,0,0,0,0,0,0,0,0,0,0,0,0,⟨#[]⟩,ownS,0⟩
theorem Zk9:CfgOk awC:=by constructor <;> decide
theorem Zru:SgOk awG none:=⟨Zk9,by decide,by decide,by decide,by decide,by decide,by decide,⟨_,Ru.says0⟩⟩
theorem Zot {us:List (Nat×Value)}{w:World}(h:ChsIn w us [(1,[ev1]),(2,[ev2])]):∃A1 c1 A2 c2,us = [(1,.slice A1 1 c1),(2,.slice A2 1 c2)]:=by
 obtain⟨h1,h2⟩:=h
 match us,h1 with
 | [u,v],_=>
  obtain⟨e1,A1,c1,e2,_⟩:=h2 0 u (1,[ev1]) rfl rfl;obtain⟨e3,A2,c2,e4,_⟩:=h2 1 v (2,[ev2]) rfl rfl;obtain⟨u1,u2⟩:=u;obtain⟨v1,v2⟩:=v;dsimp only at e1 e2 e3 e4;subst e1 e2 e3 e4;exact⟨A1,c1,A2,c2,rfl⟩
theorem awake41_any (w:World)(hg:Lb2 w):Calls Tryz.prog 6 #[] w fun e w'=>e = .returned (.bool true)/\Below w.heap.size w w':=by
 have HLB:Hid (∀W,Below w.heap.size w W->Lb2 W):=zh (fun W hb=>hg.keep hb);have HT:Hid (toldB pS aS 5=true):=zh (by decide);obtain⟨sa,hsa⟩:=zG (sgArr awG);have HSA:=zh hsa;have HSI:Hid ((Tryz.prog.info? 37).map (·.size)=some sa.size):=zh (by rw[<-hsa];exact Zb6);clear hg hsa;go_enter Tryz.func6,Tryz.ntmps6
 go_upto_region 2 with (first
  | (refine Zad _ rfl 37 (.tmp 1) (.tmp 6) rfl 0 (sgArr awG) rfl rfl (Blk.new _ _ _) (by show 0+22<=22;omega) Zb6 (by simp[sgArr,Value.oneCell']) ?_;intro w1 hb1 hk1 hs1)
  | fail)
 (try simp only[Exit.inBlock,Exit.then])
 simp only[sgArr,putA,xq1,xq2,xq3]at hb1;have HX1:Hid (Blk w1 w.heap.size 37 (sgArr awG)):=zh hb1;have HB1:Hid (Below w.heap.size w w1):=zh (((Below.refl _ _).alloc (zr _) _).trans (hk1.toBelow (fun i hi=>by rw[hi];exact zr _) (by simp)));clear hb1 hk1 hs1;have c0:w1.cell? ⟨w.heap.size,0,none⟩=some (.int .i64 1):=HX1.o.cell 0;have c1:w1.cell? ⟨w.heap.size,1,none⟩=some (.int .i64 1):=HX1.o.cell 1;have c2:w1.cell? ⟨w.heap.size,2,none⟩=some (.int .i64 0):=HX1.o.cell 2;have c3:w1.cell? ⟨w.heap.size,3,none⟩=some (.int .i64 1):=HX1.o.cell 3;have c4:w1.cell? ⟨w.heap.size,4,none⟩=some (.int .i64 0):=HX1.o.cell 4;have c5:w1.cell? ⟨w.heap.size,5,none⟩=some (.int .i64 0):=HX1.o.cell 5;rw[HSA.o]at HX1;have hlb:=HLB.o w1 HB1.o;have HC:=zh (wof_any awC w1 w1.heap.size none [] 0 0 Zk9 rfl ⟨rfl,Or.inl rfl⟩ (zr _) (by omega) (fun e h=>by cases h) hlb.g hlb.k hlb.t);unfold cfgA awC at HC;dsimp only at HC;clear hlb;go_wp2_with fail;refine HC.o.mono ?_;rintro e w2 ⟨wb,base,E,rfl,han,hwa,_,hb2⟩;have hE:E = []:=List.length_eq_zero_iff.1 (by have:=han.few;simpa using this);subst hE;obtain⟨ct,cr,hw2⟩:=hwa.read;have HB2:Hid (Below w1.heap.size w1 w2):=zh hb2;have HW2:=zh hw2;have HX2:Hid (Blk w2 w.heap.size 37 sa):=zh ((HB2.o.block _ HX1.o.lt).trans HX1.o);have HBW2:=zT HB1 HB2.o;clear han hwa hb2 HC c0 c1 c2 c3 c4 c5 hw2;have HNE:Hid (WnE 200 []):=zh ⟨Zc9,fun e h=>(by cases h),(by simp)⟩;have HC:=zh (whof_yes HW2.o HNE.o Zk9 (by decide) awG none Zru pS aS 5 HT.o (HLB.o w2 HBW2.o));unfold sgA pS aS at HC;rw[HSA.o]at HC
 go_wp2_with (first
  | (refine wpList_load_row rfl 37 _ rfl w.heap.size rfl 37 sa (0,0) _ HX2.o Tryz.underlying37 rfl HSI.o ?_)
  | fail)
 refine HC.o.mono ?_;rintro e w3 ⟨l,E2,A,cp,us,rfl,hch,hrow,hins,hnil,hb3⟩;have hl:=Zjq hch;subst hl;obtain⟨A1,k1,A2,k2,rfl⟩:=Zot hins;obtain⟨b,off,rfl,hbl,hcl⟩:=hrow.at (by decide);have HIN:=zh (And.intro hrow hins);have HB3:Hid (Below w2.heap.size w2 w3):=zh hb3;have HX3:Hid (Blk w3 w.heap.size 37 sa):=zh ((HB3.o.block _ HX2.o.lt).trans HX2.o);have HBW3:=zT HBW2 HB3.o;have c0:w3.cell? ⟨b,off,none⟩=some (.int .i64 1):=hcl 0 _ rfl;have c1:w3.cell? ⟨b,off+1,none⟩=some (.slice A1 1 k1):=hcl 1 _ rfl;have c2:w3.cell? ⟨b,off+2,none⟩=some (.int .i64 2):=hcl 2 _ rfl;have c3:w3.cell? ⟨b,off+3,none⟩=some (.slice A2 1 k2):=hcl 3 _ rfl
 have HC:=zh (cures_yes (HW2.o.below HB3.o) HNE.o Zk9 (by decide) awG none Zru pS aS 5 HT.o (HLB.o w3 HBW3.o) [(1,[ev1]),(2,[ev2])] _ (some ⟨b,off,none⟩) 2 cp rfl (by omega) HIN.o.1 HIN.o.2 (by
  intro e he;have h:e=ev1\/e=ev2:=by simpa [evsC] using he
  rcases h with rfl|rfl
  ·exact⟨by kernel_rfl,by decide,by decide,by decide,by decide⟩
  ·exact⟨by kernel_rfl,by decide,by decide,by decide,by decide⟩) (by
  intro x hx;simp only[List.mem_cons,List.not_mem_nil,or_false]at hx;rcases hx with rfl|rfl <;> simp))
 unfold sgA pS aS at HC;rw[HSA.o]at HC;clear hrow hins hnil hch hb3 hbl hcl;dsimp only[List.length_cons,List.length_nil]
 go_wp2_with (first
  | (refine Zel (by rfl) 37 _ rfl w.heap.size rfl 37 sa (0,0) _ HX3.o Tryz.underlying37 rfl HSI.o ?_)
  | fail)
 refine HC.o.mono ?_;rintro e w4 ⟨E3,han3,he,hb4⟩;have h0:=Zmb han3;obtain rfl:e = .returned (.bool true):=he.trans (congrArg (fun b=>Ending.returned (.bool b)) (decide_eq_true h0));have HB4:=zT HBW3 hb4;clear han3 hb4 h0 he;go_wp2_with fail;go_ret;exact⟨rfl,HB4.o⟩
end Go.Proofs.YtphmhbcimhlcjaaGreatDoor
namespace Go.Proofs.YtphmhbcimhlcjaaGreatDoor
open Go.Shelf Go.RowKit Go.Maps
open Ru (Fz fzA fzX Nd holdsR RuleV ruleT Says errOf ErrAt TabAt)
section
variable {P : Program}
theorem run_loadVar_at (w:World)(g off:Nat)(ty:TypeId)(cs:Array Value)(d:TypeDesc)(hg:∀(j:Nat) v,cs[j]? = some v->w.cell? ⟨g,off+j,none⟩=some v)
  (hu:P.underlying ty=some d) (hd:(match d with | .struct _ | .array _ _=>true|_=>false)=true) (hi:(P.info? ty).map (·.size)=some cs.size) :
  (loadVar ty ⟨g,off,none⟩).run P w = .ok (.agg cs) w:=by
 have hl:(loadCells ⟨g,off,none⟩ cs.toList.length).run P w = .ok cs.toList.toArray w:=
  run_loadCells_list (P:=P) w ⟨g,off,none⟩ cs.toList (fun j v hv=>by
   rw[at_add];exact hg j v (by simpa using hv))
 cases hq:P.info? ty with
 | none=>simp[hq]at hi
 | some i=>
  have hs:i.size=cs.size:=by simpa [hq] using hi
  have hagg:(isAgg ty).run P w = .ok true w:=by
   unfold isAgg;rw[Sem.run_bind,run_underlying hu w];cases d <;> simp_all
  simp only[Array.length_toList,Array.toArray_toList]at hl;simp[loadVar,Sem.run_bind,hagg,sizeOf,typeInfo,hq,hs,hl]
theorem wpList_load_at {ops:Array Oper}{rest:List Oper}{o:Oper}{a:Act}{w:World}{Q:Exit->Act->World->Prop}(hgd:o.guard=none)(ty:TypeId)(x:Operand)(ho:o.op = .load ty x)
  (g off:Nat) (hx:a.eval x = .pointer (some ⟨g,off,none⟩)) (cs:Array Value) (hg:∀(j:Nat) v,cs[j]? = some v->w.cell? ⟨g,off+j,none⟩=some v) {d:TypeDesc}
  (hu:P.underlying ty=some d) (hd:(match d with | .struct _ | .array _ _=>true|_=>false)=true) (hi:(P.info? ty).map (·.size)=some cs.size)
  (h:wpList P ops Q rest (a.put o.dst (.agg cs)) w):wpList P ops Q (o::rest) a w:=by
 refine wpList_plain hgd fun K hK=>?_;unfold Oper.wp execOp;simp only[ho,hx,Instr.loadAt,Instr.sureAddr,Sem.run_bind,Sem.run_pure,Result.andThen_ok,run_loadVar_at w g off ty cs d hg hu hd hi];exact hK _ _ h
end
theorem play_info:(Tryz.prog.info? 30).map (·.size)=some 22:=by kernel_rfl
theorem sm_info:(Tryz.prog.info? 28).map (·.size)=some 18:=by kernel_rfl
theorem play_sm {w:World}{g:Nat}{A:Option Addr}{n cp:Nat}{x:Sm}{p i:ByteArray}{now:Int}(h:Blk w g 30 (plArr A n cp x p i now))(j:Nat)(v:Value)(hv:(smArr x)[j]? = some v):w.cell? ⟨g,1+j,none⟩=some v:=by
 have hj:j<18:=by
  have h1:=(Array.getElem?_eq_some_iff.1 hv).1;simpa [smArr] using h1
 rw[h.cell (1+j),<-hv];have hh:j=0\/j=1\/j=2\/j=3\/j=4\/j=5\/j=6\/j=7\/j=8\/j=9\/j=10\/j=11\/j=12\/j=13\/j=14\/j=15\/j=16\/j=17:=by omega
 rcases hh with rfl|rfl|rfl|rfl|rfl|rfl|rfl|rfl|rfl|rfl|rfl|rfl|rfl|rfl|rfl|rfl|rfl|rfl <;> rfl
structure PlayIn (w:World) (A:Option Addr) (n cp:Nat) (l:List Ev) (x:Sm) (p i:ByteArray) (now:Int):Prop where
 arg:EvArg w A n cp l
 lib:Lb2 w
 sm:SmIn x
 p:p.size<=140737488355328
 i:i.size<=140737488355328
 now:InR now
end Go.Proofs.YtphmhbcimhlcjaaGreatDoor
namespace Go.Proofs.YtphmhbcimhlcjaaGreatDoor
open Go.ChangeShapes Go.WideShapes Go.RowKit
section
variable {H : Type} {enc : TypeId × Value -> H} {w : World} {base : Nat} {spare : Nat -> Bool} {held : Bool}
theorem trod_array6 {P:Program}{t e:TypeId}{fuel:Nat}{c0 c1 c2 c3 c4 c5:Value}{x:DataW H×List MemPlace}(ht:P.underlying t=some (.array 6 e))(hce:P.cellsOf e=1)
  (h:DataW.trod enc P w base spare held fuel t [c0,c1,c2,c3,c4,c5]=some x) :
  ∃y0 y1 y2 y3 y4 y5 n,DataW.trod enc P w base spare held n e [c0]=some y0/\DataW.trod enc P w base spare held n e [c1]=some y1/\DataW.trod enc P w base spare held n e [c2]=some y2/\DataW.trod enc P w base spare held n e [c3]=some y3/\DataW.trod enc P w base spare held n e [c4]=some y4/\DataW.trod enc P w base spare held n e [c5]=some y5:=by
 cases fuel with
 | zero=>simp[DataW.trod]at h
 | succ n=>
  unfold DataW.trod at h;rw[ht]at h;have r6:List.range 6 = [0,1,2,3,4,5]:=rfl;simp[r6,hce]at h;obtain⟨_,h⟩:=h;cases h0:DataW.trod enc P w base spare held n e [c0] with
  | none=>simp[h0]at h
  | some y0=>
   cases h1:DataW.trod enc P w base spare held n e [c1] with
   | none=>simp[h0,h1]at h
   | some y1=>
    cases h2:DataW.trod enc P w base spare held n e [c2] with
    | none=>simp[h0,h1,h2]at h
    | some y2=>
     cases h3:DataW.trod enc P w base spare held n e [c3] with
     | none=>simp[h0,h1,h2,h3]at h
     | some y3=>
      cases h4:DataW.trod enc P w base spare held n e [c4] with
      | none=>simp[h0,h1,h2,h3,h4]at h
      | some y4=>
       cases h5:DataW.trod enc P w base spare held n e [c5] with
       | none=>simp[h0,h1,h2,h3,h4,h5]at h
       | some y5=>exact⟨y0,y1,y2,y3,y4,y5,n,h0,h1,h2,h3,h4,h5⟩
theorem list22 {α:Type}{l:List α}(h:l.length=22):∃a0 a1 a2 a3 a4 a5 a6 a7 a8 a9 a10 a11 a12 a13 a14 a15 a16 a17 a18 a19 a20 a21,l = [a0,a1,a2,a3,a4,a5,a6,a7,a8,a9,a10,a11,a12,a13,a14,a15,a16,a17,a18,a19,a20,a21]:=by
 match l,h with
 | [a0,a1,a2,a3,a4,a5,a6,a7,a8,a9,a10,a11,a12,a13,a14,a15,a16,a17,a18,a19,a20,a21],_=>exact⟨a0,a1,a2,a3,a4,a5,a6,a7,a8,a9,a10,a11,a12,a13,a14,a15,a16,a17,a18,a19,a20,a21,rfl⟩
theorem some_getN {α:Type}{l:List α}{i n:Nat}(h:l.length=n)(hi:i<n):∃y,l[i]? = some y:=⟨_,List.getElem?_eq_getElem (by omega)⟩
theorem byte_of {m:Int}(h:Lit.wf (.int .u8 m)):0<=m/\m<=255:=by
 simp[Lit.wf,IntKind.min,IntKind.max,IntKind.signed,IntKind.bits]at h;omega
theorem open_play {r:Reach}{b0:Nat}{v:Value}{d:DataW H}{p:List MemPlace}(hv:Value.okWide Tryz.prog w r b0 30 v)(h:DataW.Trod enc Tryz.prog w base spare held 30 v d p)(hw:∀n∈d.weights Tryz.prog 30,n<=reachBytes) :
  ∃A n cp l x P i now,v=plA A n cp x P i now/\EvArg w A n cp l/\SmIn x/\P.size<=140737488355328/\i.size<=140737488355328/\InR now:=by
 obtain⟨cs,rfl,hsz⟩:=okWide_struct Tryz.underlying30 hv;have hsz22:cs.size=22:=hsz.trans (by kernel_rfl);obtain⟨l⟩:=cs;have hl:l.length=22:=hsz22;clear hsz hsz22 hv;obtain⟨a0,a1,a2,a3,a4,a5,a6,a7,a8,a9,a10,a11,a12,a13,a14,a15,a16,a17,a18,a19,a20,a21,rfl⟩:=list22 hl;clear hl;obtain⟨fuel,hf⟩:=h;obtain⟨xs,n,_,hxd,_,hlen,hfs⟩:=DataW.trod_struct Tryz.underlying30 hf;have hlen5:xs.length=5:=hlen;simp only[Prod.mk.injEq]at hxd;obtain⟨y0,hy0⟩:=some_getN (i:=0) hlen5 (by omega);have g0:=hfs 0 _ rfl;rw[hy0]at g0;obtain⟨y1,hy1⟩:=some_getN (i:=1) hlen5 (by omega);have g1:=hfs 1 _ rfl;rw[hy1]at g1;obtain⟨y2,hy2⟩:=some_getN (i:=2) hlen5 (by omega);have g2:=hfs 2 _ rfl;rw[hy2]at g2;obtain⟨y3,hy3⟩:=some_getN (i:=3) hlen5 (by omega);have g3:=hfs 3 _ rfl;rw[hy3]at g3;obtain⟨y4,hy4⟩:=some_getN (i:=4) hlen5 (by omega);have g4:=hfs 4 _ rfl;rw[hy4]at g4
 have hwe:∀(j:Nat) (t:TypeId) (z:DataW H×List MemPlace),xs[j]? = some z->([22,28,9,9,3]:List TypeId)[j]? = some t->∀k∈z.1.weights Tryz.prog t,k<=reachBytes:=fun j t z hz ht k hk=>hw k (by
  rw[hxd.1];simp only[DataW.weights,Tryz.underlying30];exact DataW.weights_mem_each (j:=j) (t:=t) (d:=z.1) ht (by simp[hz]) _ hk)
 have hstr:∀(j:Nat) (s:ByteArray) (z:DataW H×List MemPlace),xs[j]? = some z->z.1 = .lit (.string s.data.toList)->(j=2\/j=3)->s.size<=140737488355328:=fun j s z hz hs hj=>by
  have h3:=hwe j 9 z hz (by rcases hj with rfl|rfl <;> rfl) s.data.toList.length (by rw[hs];simp[DataW.weights]);have e:s.data.toList.length=s.size:=by simp
  rw[e]at h3;unfold reachBytes at h3;omega
 obtain⟨s2,e2,d2,_⟩:=DataW.trod_string Tryz.underlying9 g2;have e2':[a19] = [.string s2]:=e2;obtain rfl:a19 = .string s2:=by injection e2'
 obtain⟨s3,e3,d3,_⟩:=DataW.trod_string Tryz.underlying9 g3;have e3':[a20] = [.string s3]:=e3;obtain rfl:a20 = .string s3:=by injection e3'
 obtain⟨m4,e4,_,w4⟩:=DataW.trod_int Tryz.underlying3 g4;have e4':[a21] = [.int .i64 m4]:=e4;obtain rfl:a21 = .int .i64 m4:=by injection e4'
 have hs2:=hstr 2 s2 y2 hy2 (by rw[d2]) (Or.inl rfl);have hs3:=hstr 3 s3 y3 hy3 (by rw[d3]) (Or.inr rfl);have hnow:InR m4:=by
  unfold InR;simp[Lit.wf,IntKind.min,IntKind.max,IntKind.signed,IntKind.bits]at w4;omega
 have g0':DataW.trod enc Tryz.prog w base spare held n 22 [a0]=some y0:=g0;obtain⟨A,ln,cp,rfl⟩:∃A ln cp,a0 = .slice A ln cp:=by
  rcases Zeg Tryz.underlying22 Tryz.underlying66 (by kernel_rfl) (by kernel_rfl) g0' with ⟨hcs,_⟩|⟨ad,n,c,m,D,Pl,hcs,_⟩
  ·exact⟨none,0,0,by injection hcs⟩
  ·exact⟨some ad,n,c,by injection hcs⟩
 obtain⟨le,q1,q2,q3,q4,q5,_⟩:=evs_of g0' (hwe 0 22 y0 hy0 rfl);have g1':DataW.trod enc Tryz.prog w base spare held n 28 [a1,a2,a3,a4,a5,a6,a7,a8,a9,a10,a11,a12,a13,a14,a15,a16,a17,a18]=some y1:=g1;obtain⟨zs,n1,_,_,_,zlen,zfs⟩:=DataW.trod_struct Tryz.underlying28 g1';have zlen8:zs.length=8:=zlen;obtain⟨zy0,hzy0⟩:=some_getN (i:=0) zlen8 (by omega);have zg0:=zfs 0 _ rfl;rw[hzy0]at zg0;obtain⟨zy1,hzy1⟩:=some_getN (i:=1) zlen8 (by omega);have zg1:=zfs 1 _ rfl;rw[hzy1]at zg1;obtain⟨zy2,hzy2⟩:=some_getN (i:=2) zlen8 (by omega);have zg2:=zfs 2 _ rfl;rw[hzy2]at zg2;obtain⟨zy3,hzy3⟩:=some_getN (i:=3) zlen8 (by omega);have zg3:=zfs 3 _ rfl;rw[hzy3]at zg3;obtain⟨zy4,hzy4⟩:=some_getN (i:=4) zlen8 (by omega);have zg4:=zfs 4 _ rfl;rw[hzy4]at zg4;obtain⟨zy5,hzy5⟩:=some_getN (i:=5) zlen8 (by omega);have zg5:=zfs 5 _ rfl;rw[hzy5]at zg5;obtain⟨zy6,hzy6⟩:=some_getN (i:=6) zlen8 (by omega);have zg6:=zfs 6 _ rfl;rw[hzy6]at zg6;obtain⟨zy7,hzy7⟩:=some_getN (i:=7) zlen8 (by omega);have zg7:=zfs 7 _ rfl;rw[hzy7]at zg7;have zg0':DataW.trod enc Tryz.prog w base spare held n1 24 [a1,a2,a3,a4,a5,a6]=some zy0:=zg0;obtain⟨cs,cn,_,_,_,clen,cfs⟩:=DataW.trod_struct Tryz.underlying24 zg0';have clen6:cs.length=6:=clen;obtain⟨cy0,hcy0⟩:=some_getN (i:=0) clen6 (by omega);have cg0:=cfs 0 _ rfl;rw[hcy0]at cg0;obtain⟨cm0,ce0,_,_⟩:=DataW.trod_int Tryz.underlying3 cg0;have ce0':[a1] = [.int .i64 cm0]:=ce0;obtain rfl:a1 = .int .i64 cm0:=by injection ce0'
 obtain⟨cy1,hcy1⟩:=some_getN (i:=1) clen6 (by omega);have cg1:=cfs 1 _ rfl;rw[hcy1]at cg1;obtain⟨cm1,ce1,_,_⟩:=DataW.trod_int Tryz.underlying3 cg1;have ce1':[a2] = [.int .i64 cm1]:=ce1;obtain rfl:a2 = .int .i64 cm1:=by injection ce1'
 obtain⟨cy2,hcy2⟩:=some_getN (i:=2) clen6 (by omega);have cg2:=cfs 2 _ rfl;rw[hcy2]at cg2;obtain⟨cm2,ce2,_,_⟩:=DataW.trod_int Tryz.underlying3 cg2;have ce2':[a3] = [.int .i64 cm2]:=ce2;obtain rfl:a3 = .int .i64 cm2:=by injection ce2'
 obtain⟨cy3,hcy3⟩:=some_getN (i:=3) clen6 (by omega);have cg3:=cfs 3 _ rfl;rw[hcy3]at cg3;obtain⟨cm3,ce3,_,_⟩:=DataW.trod_int Tryz.underlying3 cg3;have ce3':[a4] = [.int .i64 cm3]:=ce3;obtain rfl:a4 = .int .i64 cm3:=by injection ce3'
 obtain⟨cy4,hcy4⟩:=some_getN (i:=4) clen6 (by omega);have cg4:=cfs 4 _ rfl;rw[hcy4]at cg4;obtain⟨cm4,ce4,_,_⟩:=DataW.trod_int Tryz.underlying3 cg4;have ce4':[a5] = [.int .i64 cm4]:=ce4;obtain rfl:a5 = .int .i64 cm4:=by injection ce4'
 obtain⟨cy5,hcy5⟩:=some_getN (i:=5) clen6 (by omega);have cg5:=cfs 5 _ rfl;rw[hcy5]at cg5;obtain⟨cm5,ce5,_,_⟩:=DataW.trod_int Tryz.underlying3 cg5;have ce5':[a6] = [.int .i64 cm5]:=ce5;obtain rfl:a6 = .int .i64 cm5:=by injection ce5'
 have zg1':DataW.trod enc Tryz.prog w base spare held n1 26 [a7,a8,a9,a10,a11,a12]=some zy1:=zg1;obtain⟨gy0,gy1,gy2,gy3,gy4,gy5,gn,gg0,gg1,gg2,gg3,gg4,gg5⟩:=trod_array6 Tryz.underlying26 (by kernel_rfl) zg1';obtain⟨gm0,ge0,_,_⟩:=DataW.trod_int Tryz.underlying3 gg0;have ge0':[a7] = [.int .i64 gm0]:=ge0;obtain rfl:a7 = .int .i64 gm0:=by injection ge0'
 obtain⟨gm1,ge1,_,_⟩:=DataW.trod_int Tryz.underlying3 gg1;have ge1':[a8] = [.int .i64 gm1]:=ge1;obtain rfl:a8 = .int .i64 gm1:=by injection ge1'
 obtain⟨gm2,ge2,_,_⟩:=DataW.trod_int Tryz.underlying3 gg2;have ge2':[a9] = [.int .i64 gm2]:=ge2;obtain rfl:a9 = .int .i64 gm2:=by injection ge2'
 obtain⟨gm3,ge3,_,_⟩:=DataW.trod_int Tryz.underlying3 gg3;have ge3':[a10] = [.int .i64 gm3]:=ge3;obtain rfl:a10 = .int .i64 gm3:=by injection ge3'
 obtain⟨gm4,ge4,_,_⟩:=DataW.trod_int Tryz.underlying3 gg4;have ge4':[a11] = [.int .i64 gm4]:=ge4;obtain rfl:a11 = .int .i64 gm4:=by injection ge4'
 obtain⟨gm5,ge5,_,_⟩:=DataW.trod_int Tryz.underlying3 gg5;have ge5':[a12] = [.int .i64 gm5]:=ge5;obtain rfl:a12 = .int .i64 gm5:=by injection ge5'
 obtain⟨u2,ue2,_,uw2⟩:=DataW.trod_int Tryz.underlying5 zg2;have ue2':[a13] = [.int .u8 u2]:=ue2;obtain rfl:a13 = .int .u8 u2:=by injection ue2'
 obtain⟨u3,ue3,_,uw3⟩:=DataW.trod_int Tryz.underlying5 zg3;have ue3':[a14] = [.int .u8 u3]:=ue3;obtain rfl:a14 = .int .u8 u3:=by injection ue3'
 obtain⟨u4,ue4,_,uw4⟩:=DataW.trod_int Tryz.underlying5 zg4;have ue4':[a15] = [.int .u8 u4]:=ue4;obtain rfl:a15 = .int .u8 u4:=by injection ue4'
 obtain⟨u5,ue5,_,uw5⟩:=DataW.trod_int Tryz.underlying5 zg5;have ue5':[a16] = [.int .u8 u5]:=ue5;obtain rfl:a16 = .int .u8 u5:=by injection ue5'
 obtain⟨u6,ue6,_,uw6⟩:=DataW.trod_int Tryz.underlying5 zg6;have ue6':[a17] = [.int .u8 u6]:=ue6;obtain rfl:a17 = .int .u8 u6:=by injection ue6'
 obtain⟨u7,ue7,_,uw7⟩:=DataW.trod_int Tryz.underlying5 zg7;have ue7':[a18] = [.int .u8 u7]:=ue7;obtain rfl:a18 = .int .u8 u7:=by injection ue7'
 exact⟨A,ln,cp,le,⟨⟨cm0,cm1,cm2,cm3,cm4,cm5⟩,gm0,gm1,gm2,gm3,gm4,gm5,u2,u3,u4,u5,u6,u7⟩,s2,s3,m4,rfl,⟨q1,q3,q2,q4,q5⟩,⟨byte_of uw2,byte_of uw3,byte_of uw4,byte_of uw5,byte_of uw6,byte_of uw7⟩,hs2,hs3,hnow⟩
end
end Go.Proofs.YtphmhbcimhlcjaaGreatDoor
namespace Go.Proofs.YtphmhbcimhlcjaaGreatDoor
open Go.Shelf Go.RowKit Go.Maps
open Ru (Fz fzA fzX Nd holdsR RuleV ruleT Says errOf ErrAt TabAt)
theorem WhOf.parts {E:List Ev}{c:Cfg}{p i:ByteArray}{now:Int}{r:Option Nd}{l:List (Nat×List Ev)}{E2:List Ev}(hch:ChainP fmtB p i now c.crowd c.span (some r) E l E2)(hE:WnE 200 E)(hcr:c.crowd<=12)(ht:toldB p i now=true):ChainOk p i now c.crowd c.span (some r) 0 E l E2:=by
 obtain⟨hp,hi,hn1,hn2⟩:=Zek ht;exact Zqz hp hi ⟨hn1,hn2⟩ hcr hch 0 (by omega) (by omega) ⟨hE.closed,hE.ok,by have:=hE.few;omega⟩
theorem ev_size8:(Tryz.prog.info? 66).map (·.size)=some 8:=by kernel_rfl
theorem source_any (w:World):Calls Tryz.prog 56 #[] w fun e w'=>e = .returned (.string zzS)/\w'=w:=by
 go_enter Tryz.func56,Tryz.ntmps56;go_wp2_with fail;go_ret;exact⟨rfl,rfl⟩
end Go.Proofs.YtphmhbcimhlcjaaGreatDoor
namespace Go.Proofs.YtphmhbcimhlcjaaGreatDoor
open Go.Shelf Go.RowKit Go.Maps
open Ru (Fz fzA fzX Nd holdsR RuleV ruleT Says errOf ErrAt TabAt)
theorem rlate_any (w:World)(B:Nat)(A:Option Addr)(l:List Ev)(n c:Nat)(now:Int)(hn:l.length=n)(hl:EvsAt w B A l)(hb:n<=1000):Calls Tryz.prog 52 #[.slice A n c,.int .i64 now] w fun e w'=>e = .returned (.int .i64 (lateP l now))/\w'=w:=by
 have HN:=zh hn;have HL:=zh hl;clear hn hl;go_enter Tryz.func52,Tryz.ntmps52;go_wp2_with fail;go_loopw [1,5] (fun nv iv wr=>∃k:Nat,k<=n/\nv = .int .i64 (lateP (l.take k) now)/\iv = .int .i64 k/\wr=w) (fun _ iv _=>n - (intOf iv).toNat)
 case atStart=>exact⟨0,Nat.zero_le _,rfl,rfl,rfl⟩
 case round=>
  obtain⟨k,hk,rfl,rfl,rfl⟩:=hrel;obtain⟨lt,hlt0⟩:=zG (lateP (l.take k) now);have HLT:=zh hlt0;rw[hlt0];clear hlt0;by_cases hlt:k<n
  ·obtain⟨z,hz⟩:∃z,l[k]? = some z:=⟨l[k]'(by rw[HN.o];exact hlt),List.getElem?_eq_getElem _⟩
   obtain⟨g,o,rfl,hgB,hcl⟩:=HL.o.at (by rw[HN.o];omega);obtain⟨e0,e1,e2,e3,e4,e5,e6,e7⟩:EvAt wr g (o+k*8) z:=hcl k z hz;have HZ:=zh hz;have HZS:=zh (Zbd hz);have hk8:(k:Int)<(n:Int):=by omega
   have hk9:(0:Int)<=(k:Int):=by omega
   clear hcl hz hgB;by_cases hc:lt<z.tick
   ·have d:decide (lt<z.tick)=true:=decide_eq_true hc;have HF:Hid (lateP (l.take (k+1)) now=z.tick):=zh (by rw[HZS.o,Zl3,HLT.o,if_pos hc]);clear hc;go_wp2_with fail;go_roundw
    case rel=>exact⟨k+1,by omega,by rw[HF.o],by go_num,by first|rfl|trivial⟩
    case measure=>simp[intOf];omega
   ·have d:decide (lt<z.tick)=false:=decide_eq_false hc;have HF:Hid (lateP (l.take (k+1)) now=lt):=zh (by rw[HZS.o,Zl3,HLT.o,if_neg hc]);clear hc;go_wp2_with fail;go_roundw
    case rel=>exact⟨k+1,by omega,by rw[HF.o],by go_num,by first|rfl|trivial⟩
    case measure=>simp[intOf];omega
  ·obtain rfl:n=k:=by omega
   have hkk:¬(n:Int)<(n:Int):=by omega
   have HE:Hid (lateP l now=lt):=zh (by rw[<-HLT.o,<-HN.o,List.take_length]);clear hlt;go_wp2_with fail;go_ret;exact⟨by first|(rw[HE.o];done)|(rw[HE.o];rfl),rfl⟩
theorem rknown_any (w:World)(B:Nat)(A:Option Addr)(l:List Ev)(n c:Nat)(p:ByteArray)(hn:l.length=n)(hl:EvsAt w B A l)(hb:n<=1000):Calls Tryz.prog 55 #[.slice A n c,.string p] w fun e w'=>e = .returned (.bool (l.any fun x=>decide (x.person=p)))/\w'=w:=by
 have HN:=zh hn;have HL:=zh hl;clear hn hl;go_enter Tryz.func55,Tryz.ntmps55;go_wp2_with fail;go_loopw [5] (fun iv wr=>∃k:Nat,k<=n/\iv = .int .i64 k/\Hid ((l.take k).any (fun x=>decide (x.person=p))=false)/\wr=w) (fun iv _=>n - (intOf iv).toNat)
 case atStart=>exact⟨0,Nat.zero_le _,rfl,zh rfl,rfl⟩
 case round=>
  obtain⟨k,hk,rfl,HA,rfl⟩:=hrel;by_cases hlt:k<n
  ·obtain⟨z,hz⟩:∃z,l[k]? = some z:=⟨l[k]'(by rw[HN.o];exact hlt),List.getElem?_eq_getElem _⟩
   obtain⟨g,o,rfl,hgB,hcl⟩:=HL.o.at (by rw[HN.o];omega);obtain⟨e0,e1,e2,e3,e4,e5,e6,e7⟩:EvAt wr g (o+k*8) z:=hcl k z hz;have HZ:=zh hz;have HZS:=zh (Zbd hz);have hk8:(k:Int)<(n:Int):=by omega
   have hk9:(0:Int)<=(k:Int):=by omega
   clear hcl hz hgB;by_cases hc:z.person=p
   ·have z1:(z.person.toList == p.toList)=true:=str_t hc;have HF:Hid ((l.any fun x=>decide (x.person=p))=true):=zh (by rw[List.any_eq_true];exact⟨z,List.mem_of_getElem? HZ.o,decide_eq_true hc⟩);clear hc;go_wp2_with fail;go_ret;exact⟨by first|(rw[HF.o];done)|(rw[HF.o];rfl),rfl⟩
   ·have z1:(z.person.toList == p.toList)=false:=str_f hc;have HF:Hid ((l.take (k+1)).any (fun x=>decide (x.person=p))=false):=zh (by rw[HZS.o,List.any_append,HA.o];simp[hc]);clear hc;go_wp2_with fail;go_roundw
    case rel=>exact⟨k+1,by omega,by go_num,HF,by first|rfl|trivial⟩
    case measure=>simp[intOf];omega
  ·obtain rfl:n=k:=by omega
   have hkk:¬(n:Int)<(n:Int):=by omega
   have HE:Hid ((l.any fun x=>decide (x.person=p))=false):=zh (by have h:=HA.o;rwa [<-HN.o,List.take_length]at h);clear hlt;go_wp2_with fail;go_ret;exact⟨by first|(rw[HE.o];done)|(rw[HE.o];rfl),rfl⟩
theorem rnumber_any (w:World)(B:Nat)(A:Option Addr)(l:List Ev)(n c:Nat)(hn:l.length=n)(hl:EvsAt w B A l)(hB:B<=w.heap.size)(hb:n<=1000):Calls Tryz.prog 47 #[.slice A n c] w fun e w'=>e = .returned (.int .i64 (grtN l))/\Below w.heap.size w w':=by
 have HSRC:Hid (∀W,Calls Tryz.prog 56 #[] W fun e w'=>e = .returned (.string zzS)/\w'=W):=zh source_any;obtain⟨zs,hzs⟩:=zG zzS;have HZZ:=zh hzs;rw[hzs]at HSRC;clear hzs;have HN:=zh hn;have HL:=zh hl;clear hn hl;go_enter Tryz.func47,Tryz.ntmps47;go_wp2_with fail;go_loopw [3,4] (fun nv iv wr=>∃k:Nat,k<=n/\nv = .int .i64 (grtN (l.take k))/\iv = .int .i64 k/\Hid (Below w.heap.size w wr)) (fun _ iv _=>n - (intOf iv).toNat)
 case atStart=>exact⟨0,Nat.zero_le _,rfl,rfl,zh (Below.refl _ _)⟩
 case round=>
  obtain⟨k,hk,rfl,rfl,HBR⟩:=hrel;obtain⟨g0,hg0⟩:=zG (grtN (l.take k));have HG0:=zh hg0;rw[hg0];clear hg0;by_cases hlt:k<n
  ·obtain⟨z,hz⟩:∃z,l[k]? = some z:=⟨l[k]'(by rw[HN.o];exact hlt),List.getElem?_eq_getElem _⟩
   obtain⟨g,o,rfl,hgB,hcl⟩:=HL.o.at (by rw[HN.o];omega);have HZS:=zh (Zbd hz);have hk8:(k:Int)<(n:Int):=by omega
   have hk9:(0:Int)<=(k:Int):=by omega
   have HEC:Hid (∀W,Below wr.heap.size wr W->World.cell? W ⟨g,o+k*8,none⟩=some (.string z.src)/\World.cell? W ⟨g,o+k*8+1,none⟩=some (.int .i64 z.num)):=zh (fun W hb2=>by
    have h:=(hcl k z hz).keep (fun q=>((HBR.o.trans (hb2.mono HBR.o.size)).cell (p:=⟨g,q,none⟩) (Nat.lt_of_lt_of_le hgB hB)));exact⟨h.1,h.2.1⟩)
   clear hcl hz hgB;go_upto_region 5 with fail;refine Zar (fun W=>Below wr.heap.size wr W) [(0,false),(1,false),(2,false),(3,false),(4,false),(5,true),(6,false),(7,false),(8,false),(9,false),(10,false),(11,false),(12,false),(13,false),(14,false),(15,false)] (by kernel_rfl) (by kernel_rfl) (below_drew (Below.refl _ _)) ?_;simp only[planL,xq4,xq5];obtain⟨wd,hwd⟩:=zG (wr.drew);have HBD:=zD hwd;rw[hwd];clear hwd
   repeat ((first|(refine Zaf _ (by rfl) (fun W hW=>by (obtain⟨e0,e1⟩:=HEC.o W hW;go_simp;try with_reducible rfl)) ?_)|(refine Zac (by rfl) ?_));simp only[Act.put,xq1,xq2,xq3])
   refine Zae ?_;have HC:=zh (HSRC.o wd);go_wp2_with fail;refine HC.o.mono ?_;rintro e w7 ⟨rfl,rfl⟩;clear HC;go_wp2_with fail;refine⟨HBD.o,?_⟩;obtain⟨e0,e1⟩:=HEC.o w7 HBD.o;by_cases hs:z.src=zs
   ·have z1:(z.src.toList == zs.toList)=true:=str_t hs;by_cases hc:g0<z.num
    ·have d:decide (g0<z.num)=true:=decide_eq_true hc;have HF:Hid (grtN (l.take (k+1))=z.num):=zh (by rw[HZS.o,Zfi,HG0.o,if_pos ⟨hs.trans HZZ.o.symm,hc⟩]);clear hc hs
     repeat ((first|(refine Zaf _ (by rfl) (fun W hW=>by (obtain⟨e0,e1⟩:=HEC.o W hW;go_simp;try with_reducible rfl)) ?_)|(refine Zac (by rfl) ?_));simp only[Act.put,xq1,xq2,xq3])
     refine Zah ?_;go_wp2_with fail;go_roundw
     case rel=>exact⟨k+1,by omega,by rw[HF.o],by go_num,zh (HBR.o.trans (HBD.o.mono HBR.o.size))⟩
     case measure=>simp[intOf];omega
    ·have d:decide (g0<z.num)=false:=decide_eq_false hc;have HF:Hid (grtN (l.take (k+1))=g0):=zh (by rw[HZS.o,Zfi,HG0.o,if_neg (fun h=>hc h.2)]);clear hc hs
     repeat ((first|(refine Zaf _ (by rfl) (fun W hW=>by (obtain⟨e0,e1⟩:=HEC.o W hW;go_simp;try with_reducible rfl)) ?_)|(refine Zac (by rfl) ?_));simp only[Act.put,xq1,xq2,xq3])
     refine Zah ?_;go_wp2_with fail;go_roundw
     case rel=>exact⟨k+1,by omega,by rw[HF.o],by go_num,zh (HBR.o.trans (HBD.o.mono HBR.o.size))⟩
     case measure=>simp[intOf];omega
   ·have z1:(z.src.toList == zs.toList)=false:=str_f hs;have HF:Hid (grtN (l.take (k+1))=g0):=zh (by rw[HZS.o,Zfi,HG0.o,if_neg (fun h=>hs (h.1.trans HZZ.o))]);clear hs
    repeat ((first|(refine Zaf _ (by rfl) (fun W hW=>by (obtain⟨e0,e1⟩:=HEC.o W hW;go_simp;try with_reducible rfl)) ?_)|(refine Zac (by rfl) ?_));simp only[Act.put,xq1,xq2,xq3])
    refine Zah ?_;go_wp2_with fail;go_roundw
    case rel=>exact⟨k+1,by omega,by rw[HF.o],by go_num,zh (HBR.o.trans (HBD.o.mono HBR.o.size))⟩
    case measure=>simp[intOf];omega
  ·obtain rfl:n=k:=by omega
   have hkk:¬(n:Int)<(n:Int):=by omega
   have HE:Hid (grtN l=g0):=zh (by rw[<-HG0.o,<-HN.o,List.take_length]);clear hlt;go_wp2_with fail;go_ret;exact⟨by first|(rw[HE.o];done)|(rw[HE.o];rfl),HBR.o⟩
end Go.Proofs.YtphmhbcimhlcjaaGreatDoor
namespace Go.Proofs.YtphmhbcimhlcjaaGreatDoor
open Go.Shelf Go.RowKit Go.Maps
open Ru (Fz fzA fzX Nd holdsR RuleV ruleT Says errOf ErrAt TabAt)
theorem rthings_any (w:World)(B:Nat)(A:Option Addr)(l:List Ev)(n c:Nat)(hn:l.length=n)(hl:EvsAt w B A l)(hB:B<=w.heap.size)(hb:n<=1000):Calls Tryz.prog 49 #[.slice A n c] w fun e w'=>∃A' c' m,e = .returned (.slice A' m c')/\(thgs l).length=m/\w'.ownsRow w.heap.size 66 8 (.slice A' m c') m ((thgs l).flatMap evC)/\Below w.heap.size w w':=by
 have HN:=zh hn;have HL:=zh hl;obtain⟨i1,hi1,hy1,hy2,hy3⟩:=info_parts Zdd;obtain⟨w1,hw1⟩:=zG (w.alloc (.cells #[] 66));have HO1:Hid (w1.ownsRow w.heap.size 66 8 (.slice (some ⟨w.heap.size,0,none⟩) 0 0) 0 []):=zh (by rw[<-hw1];exact Zhl w _ _);have HB1:=zA hw1;clear hn hl;go_enter Tryz.func49,Tryz.ntmps49;go_wp2_with fail;try rw[hw1]
 clear hw1;go_loopw [3,4] (fun ov iv wr=>∃(k m:Nat) (A':Option Addr) (c':Nat),ov = .slice A' m c'/\iv = .int .i64 k/\k<=n/\Hid (wr.ownsRow w.heap.size 66 8 (.slice A' m c') m ((thgs (l.take k)).flatMap evC))/\Hid ((thgs (l.take k)).length=m)/\Hid (Below w.heap.size w wr)) (fun _ iv _=>n - (intOf iv).toNat)
 case atStart=>exact⟨0,0,_,0,rfl,rfl,Nat.zero_le _,HO1,zh rfl,HB1⟩
 case round=>
  obtain⟨k,m,A',c',rfl,rfl,hk,HO,HM,HBR⟩:=hrel;have hm:m<=1000:=by
   have h1:(thgs (l.take k)).length<=(l.take k).length:=Zdo _;rw[HM.o,List.length_take]at h1;have:=HN.o;omega
  by_cases hlt:k<n
  ·obtain⟨z,hz⟩:∃z,l[k]? = some z:=⟨l[k]'(by rw[HN.o];exact hlt),List.getElem?_eq_getElem _⟩
   obtain⟨g,o,rfl,hgB,hcl⟩:=HL.o.at (by rw[HN.o];omega);obtain⟨e0,e1,e2,e3,e4,e5,e6,e7⟩:EvAt wr g (o+k*8) z:=(hcl k z hz).keep (fun q=>HBR.o.cell (p:=⟨g,q,none⟩) (Nat.lt_of_lt_of_le hgB hB));have HZS:=zh (Zbd hz);have hk8:(k:Int)<(n:Int):=by omega
   have hk9:(0:Int)<=(k:Int):=by omega
   have hz1:w.heap.size<=wr.heap.size+1:=by have:=HBR.o.size;omega
   have HR1:Hid (RowIn (wr.alloc (.cells #[.string z.src,.int .i64 z.num,.int .i64 z.tick,.int .i64 z.kind,.string z.person,.string z.item,.int .i64 z.value,.string z.text] 66)) (wr.heap.size+1) 8 (some ⟨wr.heap.size,0,none⟩) 1 (evC z)):=zh (Zhm wr z _);clear hcl hz hgB;go_upto_region 5 with fail;go_cut [33] (fun v wx=>v = .bool (isCat z)/\wx=wr)
   case first=>
    by_cases h1:z.kind=11
    ·have d1:(z.kind == 11)=true:=by rw[beq_iff_eq];exact h1
     have hc:isCat z=true:=decide_eq_true (Or.inl h1);have HCT:=zh hc;clear h1 hc;go_wp2_with fail;go_meet;exact⟨by rw[HCT.o],by first|rfl|trivial⟩
    ·have d1:(z.kind == 11)=false:=by rw[beq_eq_false_iff_ne];exact h1
     by_cases h2:z.kind=12
     ·have d2:(z.kind == 12)=true:=by rw[beq_iff_eq];exact h2
      have hc:isCat z=true:=decide_eq_true (Or.inr (Or.inl h2));have HCT:=zh hc;clear h1 h2 hc;go_wp2_with fail;go_meet;exact⟨by rw[HCT.o],by first|rfl|trivial⟩
     ·have d2:(z.kind == 12)=false:=by rw[beq_eq_false_iff_ne];exact h2
      by_cases h3:z.kind=13
      ·have d3:(z.kind == 13)=true:=by rw[beq_iff_eq];exact h3
       have hc:isCat z=true:=decide_eq_true (Or.inr (Or.inr h3));have HCT:=zh hc;clear h1 h2 h3 hc;go_wp2_with fail;go_meet;exact⟨by rw[HCT.o],by first|rfl|trivial⟩
      ·have d3:(z.kind == 13)=false:=by rw[beq_eq_false_iff_ne];exact h3
       have hc:isCat z=false:=decide_eq_false (by rintro (h|h|h) <;> contradiction);have HCT:=zh hc;clear h1 h2 h3 hc;go_wp2_with fail;go_meet;exact⟨by rw[HCT.o],by first|rfl|trivial⟩
   case rest=>
   obtain⟨rfl,rfl⟩:=hcut;cases hcat:isCat z with
   | false=>
    have HT:Hid (thgs (l.take (k+1))=thgs (l.take k)):=zh (by rw[HZS.o,Zfa,hcat];rfl);clear hcat;go_wp2_with fail;go_roundw
    case rel=>exact⟨k+1,m,A',c',rfl,by go_num,by omega,zh (by rw[HT.o];exact HO.o),zh (by rw[HT.o];exact HM.o),HBR⟩
    case measure=>simp[intOf];omega
   | true=>
    have HT:Hid (thgs (l.take (k+1))=thgs (l.take k)++[z]):=zh (by rw[HZS.o,Zfa,hcat];rfl);clear hcat
    go_wp2_with (first
     | (at_builtin;refine Zaa _ rfl _ _ 22 rfl w.heap.size 66 i1 _ 8 96 Tryz.underlying22 hi1 hy1 hy2 hy3 rfl (by omega) (.slice A' m c') m _ rfl (HO.o.alloc _) (_+1) (some ⟨_,0,none⟩) 1 1 (evC z) rfl HR1.o (fun h=>by cases h) (fun u hu=>Zb1 [z] u (by simpa using hu)) (by unfold maxLen;omega) (by omega) (by simp;omega) ?_;intro v9 w9 ho9 hg9 hv9)
     | fail)
    obtain⟨A9,c9,rfl⟩:=Zbh ho9;have HO9:=zh ho9;have HOB:=zh HO.o;have HB9:Hid (Below w.heap.size w w9):=zh ((HBR.o.alloc HBR.o.size _).grown hg9 (HBR.o.alloc HBR.o.size _).size (fun j hj=>(Zd1 HOB.o hj).1));clear ho9 hg9 hv9;go_wp2_with fail;go_roundw
    case rel=>exact⟨k+1,m+1,A9,c9,rfl,by go_num,by omega,zh (by rw[HT.o,List.flatMap_append];simpa using HO9.o),zh (by rw[HT.o,List.length_append,HM.o];rfl),HB9⟩
    case measure=>simp[intOf];omega
  ·obtain rfl:n=k:=by omega
   have hkk:¬(n:Int)<(n:Int):=by omega
   have HE:Hid (thgs (l.take n)=thgs l):=zh (by rw[<-HN.o,List.take_length]);clear hlt;go_wp2_with fail;go_ret;exact⟨A',c',m,rfl,by rw[<-HE.o];exact HM.o,by rw[<-HE.o];exact HO.o,HBR.o⟩
end Go.Proofs.YtphmhbcimhlcjaaGreatDoor

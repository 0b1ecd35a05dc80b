/- A part of the joined base. -/
import Derived.Test.YtnpfaajhgghpgaaGreatDoorU34
set_option linter.unusedVariables false
set_option maxHeartbeats 8000000
set_option maxRecDepth 100000
namespace Go.Proofs.YtnpfaajhgghpgaaGreatDoor
open Go.Shelf Go.RowKit Go.Maps
open Ru (Fz fzA fzX Nd holdsR RuleV ruleT Says errOf ErrAt TabAt)
structure Sg where
 cfg:Cfg
 a0:Int
 a1:Int
 a2:Int
 a3:Int
 a4:Int
 a5:Int
 b0:Int
 b1:Int
 b2:Int
 slack:Int
 idle:Int
 limit:Int
 every:Int
 rule:ByteArray
 own:ByteArray
 seed:Int
def sgArr (s:Sg):Array Value:=#[.int .i64 s.cfg.half,.int .i64 s.cfg.width,.int .i64 s.cfg.gap,.int .i64 s.cfg.span,.int .i64 s.cfg.floor,.int .i64 s.cfg.crowd,.int .i64 s.a0,.int .i64 s.a1,.int .i64 s.a2,.int .i64 s.a3,.int .i64 s.a4,.int .i64 s.a5,.int .i64 s.b0,.int .i64 s.b1,.int .i64 s.b2,.int .i64 s.slack,.int .i64 s.idle,.int .i64 s.limit,.int .i64 s.every,.string s.rule,.string s.own,.int .u64 s.seed]
def sgA (s:Sg):Value:=.agg (sgArr s)
structure SgOk (s:Sg) (r:Option Nd):Prop where
 cfg:CfgOk s.cfg
 slack:0<=s.slack/\s.slack<=1099511627776
 idle:0<=s.idle/\s.idle<=1099511627776
 limit:0<=s.limit/\s.limit<=1000
 every:0<=s.every/\s.every<=1000
 own:nameB s.own=true
 rsz:s.rule.size<=1000
 rul:∃a,Says s.rule (some r) a
theorem Zb6:(Tryz.prog.info? 32).map (·.size)=some 22:=by kernel_rfl
theorem Ztd {w:World}{tb:Nat}{s:Sg}(h:Blk w tb 32 (sgArr s)):(loadVar 32 ⟨tb,0,none⟩).run Tryz.prog w = .ok (.agg (sgArr s)) w:=
 run_loadVar_row w tb _ _ (sgArr s) (0,0) _ h Tryz.underlying32 rfl Zb6
theorem Zte {w:World}{B B':Nat}{n:Nd}{v:Value}(h:Ru.NdAt w B n v)(hB:B'<=B):Ru.NdAt w B' n v:=by
 induction h with
 | atom a=>exact .atom a
 | no h ih=>exact .no ih
 | row hr hl h ih=>exact .row (hr.low hB) hl ih
theorem RlIs.low2 {w:World}{B B':Nat}{R:Option (Option Nd)}{q:Option Addr}(h:RlIs w B R q)(hB:B'<=B):RlIs w B' R q:=by
 match R,h with
 | none,h=>exact h
 | some none,⟨h1,⟨g,e,hg,hb⟩,h3⟩=>exact⟨h1,⟨g,e,Nat.le_trans hB hg,hb⟩,h3⟩
 | some (some n),⟨h1,⟨hn,g,u,e,hg,hb,hu⟩,h3⟩=>exact⟨h1,⟨hn,g,u,e,Nat.le_trans hB hg,hb,Zte hu hB⟩,h3⟩
theorem RlIs.kept {w w':World}{B:Nat}{R:Option (Option Nd)}{q:Option Addr}{S:Nat->Prop}(h:RlIs w B R q)(k:Kept S w w')(hS:∀j,B<=j->¬S j):RlIs w' B R q:=by
 cases R with
 | none=>exact h
 | some r=>exact⟨h.1,h.2.1.keep k.size (fun i hi hB=>k.block i hi (hS i hB)),h.2.2⟩
theorem Zci {fn:Func}{t u:Tmp}{ty:TypeId}{v:Value}{rb:Nat}{tmps:Array Value}{w:World}(h:fn.results=#[.cell t ty,.tmp u])(hp:tmps.getD t undef = .pointer (some ⟨rb,0,none⟩))(hl:(loadVar ty ⟨rb,0,none⟩).run Tryz.prog w = .ok v w) :
  (results fn tmps).run Tryz.prog w = .ok (.tuple #[v,tmps.getD u undef]) w:=by
 have hp':tmps[t]?.getD undef = .pointer (some ⟨rb,0,none⟩):=by simpa using hp
 simp[results,h,hp',asAddr,hl]
theorem Zc0:(Tryz.prog.info? 87).map (·.size)=some 4:=by kernel_rfl
structure Lb2 (w:World):Prop where
 g:GlobAt w
 k:KnAt w
 t:Ru.TabAt w
 e:ErrAt w
theorem Lb2.keep {w w':World}(h:Lb2 w)(hb:Below w.heap.size w w'):Lb2 w':=⟨h.g.keep hb (zr _),h.k.keep hb (zr _),h.t.keep hb,h.e.keep hb⟩
theorem Zim (s:Sg)(r:Option Nd)(h:SgOk s r)(w:World)(hg:Lb2 w):Calls Tryz.prog 54 #[sgA s] w fun e w'=>e = .returned (.bool true)/\Below w.heap.size w w':=by
 obtain⟨w1,hw1⟩:=zG (w.alloc (.cells (sgArr s) 32));have HX1:Hid (Blk w1 w.heap.size 32 (sgArr s)):=zB hw1;have HB1:=zA hw1;have HMY:=zh (Zkc s.cfg w1 h.cfg);have hoz:=Zay h.own;have HNM:=zh (name_any s.own w1 (by unfold maxLen;omega));rw[h.own]at HNM
 have HP:Hid (∀W,Below w1.heap.size w1 W->Calls Tryz.prog 9 #[.string s.rule] W fun e w'=>Ru.ParseR s.rule W e w'):=zh (fun W hb=>Ru.parse_any s.rule W (by have:=h.rsz;omega) (fun V hV=>by
  have k:=hg.keep (HB1.o.trans ((hb.trans (hV.mono hb.size)).mono HB1.o.size));exact⟨k.e,k.t⟩))
 have HS:=zh h.rul;obtain⟨h1,h2⟩:=h.slack;obtain⟨h3,h4⟩:=h.idle;obtain⟨h5,h6⟩:=h.limit;obtain⟨h7,h8⟩:=h.every;obtain⟨⟨f0,f1,f2,f3,f4,f5⟩,a0,a1,a2,a3,a4,a5,b0,b1,b2,sl,idl,li,ev,ru,ow,se⟩:=s;dsimp only at h1 h2 h3 h4 h5 h6 h7 h8 HMY HNM HP HS;have c0:w1.cell? ⟨w.heap.size,0,none⟩=some (.int .i64 f0):=HX1.o.cell 0;have c1:w1.cell? ⟨w.heap.size,1,none⟩=some (.int .i64 f1):=HX1.o.cell 1;have c2:w1.cell? ⟨w.heap.size,2,none⟩=some (.int .i64 f2):=HX1.o.cell 2;have c3:w1.cell? ⟨w.heap.size,3,none⟩=some (.int .i64 f3):=HX1.o.cell 3;have c4:w1.cell? ⟨w.heap.size,4,none⟩=some (.int .i64 f4):=HX1.o.cell 4;have c5:w1.cell? ⟨w.heap.size,5,none⟩=some (.int .i64 f5):=HX1.o.cell 5;have c15:w1.cell? ⟨w.heap.size,15,none⟩=some (.int .i64 sl):=HX1.o.cell 15;have c16:w1.cell? ⟨w.heap.size,16,none⟩=some (.int .i64 idl):=HX1.o.cell 16;have c17:w1.cell? ⟨w.heap.size,17,none⟩=some (.int .i64 li):=HX1.o.cell 17;have c18:w1.cell? ⟨w.heap.size,18,none⟩=some (.int .i64 ev):=HX1.o.cell 18;have c20:w1.cell? ⟨w.heap.size,20,none⟩=some (.string ow):=HX1.o.cell 20;unfold sgA;unfold sgArr at hw1 ⊢;unfold cfgA at HMY;dsimp only at hw1 HMY ⊢;clear h hg hoz;go_enter Tryz.func54,Tryz.ntmps54;go_wp2_with fail;refine HNM.o.mono ?_;rintro e w2 ⟨rfl,rfl⟩;clear HNM;go_wp2_with fail;refine HMY.o.mono ?_;rintro e w2 ⟨rfl,hb2⟩;have HB2:=zT HB1 hb2;have HC:=zh (HP.o w2 hb2);have c19:w2.cell? ⟨w.heap.size,19,none⟩=some (.string ru):=(hb2.cell (p:=⟨w.heap.size,19,none⟩) HX1.o.lt).trans (HX1.o.cell 19);clear hb2 HMY HP hw1 c0 c1 c2 c3 c4 c5 c15 c16 c17 c18 c20;go_wp2_with fail;refine HC.o.mono ?_;rintro e w3 ⟨r',at_,v,hsy,rfl,hv,hb3⟩;have HB3:=zT HB2 hb3;obtain⟨ax,hax⟩:=HS.o;obtain rfl:r'=some r:=(hsy.det hax).1;have e0:errOf (some r)=0:=rfl;rw[e0];clear hsy hv hb3 hax HC e0;go_wp2_with fail;go_ret;exact⟨rfl,HB3.o⟩
def toldB (p i:ByteArray)(now:Int):Bool:=nameB p&&(nameB i&&(decide (0<=now)&&decide (now<=1099511627776)))
theorem Zek {p i:ByteArray}{now:Int}(h:toldB p i now=true):nameB p=true/\nameB i=true/\0<=now/\now<=1099511627776:=by
 unfold toldB at h;rw[Bool.and_eq_true,Bool.and_eq_true,Bool.and_eq_true]at h;exact⟨h.1,h.2.1,of_decide_eq_true h.2.2.1,of_decide_eq_true h.2.2.2⟩
def AskR (s:Sg)(r:Option Nd)(p i:ByteArray)(now:Int)(w:World)(e:Ending)(w':World):Prop:=(∃q,e = .returned (.tuple #[qA q p i now,.bool true])/\RlIs w' w.heap.size (some r) q/\Below w.heap.size w w')
def AskN (w:World)(e:Ending)(w':World):Prop:=e = .returned (.tuple #[.agg #[.pointer none,.string ⟨#[]⟩,.string ⟨#[]⟩,.int .i64 0],.bool false])/\Below w.heap.size w w'
theorem Zor (s:Sg)(r:Option Nd)(h:SgOk s r)(p i:ByteArray)(now:Int)(ht:toldB p i now=true)(w:World)(hg:Lb2 w):Calls Tryz.prog 20 #[sgA s,.string p,.string i,.int .i64 now] w (AskR s r p i now w):=by
 obtain⟨hp,hi,hn1,hn2⟩:=Zek ht;obtain⟨w1,hw1⟩:=zG (w.alloc (.cells (sgArr s) 32));have HX1:Hid (Blk w1 w.heap.size 32 (sgArr s)):=zB hw1;have HB1:=zA hw1;obtain⟨w2,hw2⟩:=zG (w1.alloc (.cells #[.pointer none,.string ⟨#[]⟩,.string ⟨#[]⟩,.int .i64 0] 87));obtain⟨rb,hrb⟩:=zG (w1.heap.size);have HR2:Hid (Blk w2 rb 87 #[.pointer none,.string ⟨#[]⟩,.string ⟨#[]⟩,.int .i64 0]):=zh (by rw[<-hw2,<-hrb];exact Blk.new _ _ _);have HX2:Hid (Blk w2 w.heap.size 32 (sgArr s)):=zh (by rw[<-hw2];exact HX1.o.alloc _);have HB2:Hid (Below w.heap.size w w2):=zh (by rw[<-hw2];exact HB1.o.alloc HB1.o.size _);have HRB:Hid (w.heap.size<=rb):=zh (by rw[<-hrb];exact HB1.o.size);have HRT:=zh (Zim s r h w2 (hg.keep HB2.o));have hpz:=Zay hp;have hiz:=Zay hi;have HN1:Hid (∀W,Calls Tryz.prog 43 #[.string p] W fun e w'=>e = .returned (.bool true)/\W=w'):=zh (fun W=>by have:=name_any p W (by unfold maxLen;omega);rw[hp]at this;exact this);have HN2:Hid (∀W,Calls Tryz.prog 43 #[.string i] W fun e w'=>e = .returned (.bool true)/\W=w'):=zh (fun W=>by have:=name_any i W (by unfold maxLen;omega);rw[hi]at this;exact this)
 have HP:Hid (∀W,Below w2.heap.size w2 W->Calls Tryz.prog 9 #[.string s.rule] W fun e w'=>Ru.ParseR s.rule W e w'):=zh (fun W hb=>Ru.parse_any s.rule W (by have:=h.rsz;omega) (fun V hV=>by
  have k:=hg.keep (HB2.o.trans ((hb.trans (hV.mono hb.size)).mono HB2.o.size));exact⟨k.e,k.t⟩))
 have HS:=zh h.rul;have HLD:Hid (∀W,Below w2.heap.size w2 W->World.cell? W ⟨w.heap.size,19,none⟩=some (.string s.rule)):=zh (fun W hb=>(hb.cell (p:=⟨w.heap.size,19,none⟩) HX2.o.lt).trans (HX2.o.cell 19));have hc1:decide (now<0)=false:=decide_eq_false (by omega);have hc2:decide (1099511627776<now)=false:=decide_eq_false (by omega);obtain⟨ru,hru⟩:=zG (s.rule);rw[hru]at HP HS HLD;have hsz:(sgArr s).size=22:=rfl;obtain⟨sa,hsa⟩:=zG (sgArr s);unfold sgA at HRT ⊢;rw[hsa]at hw1 HRT HX2 hsz ⊢;have HSI:Hid ((Tryz.prog.info? 32).map (·.size)=some sa.size):=zh (by rw[hsz];exact Zb6);clear h hg ht hp hi hpz hiz HX1 hru hsa hsz;go_enter Tryz.func20,Tryz.ntmps20
 go_wp2_with (first
  | (refine wpList_load_row rfl 32 _ rfl w.heap.size rfl 32 sa (0,0) _ HX2.o Tryz.underlying32 rfl HSI.o ?_)
  | fail)
 try rw[hrb]
 try rw[hw2]
 refine HRT.o.mono ?_;rintro e w3 ⟨rfl,hb3⟩;have HB3:Hid (Below w2.heap.size w2 w3):=zh hb3;clear hb3 HRT hw1 hw2 hrb;go_wp2_with fail;refine (HN1.o w3).mono ?_;rintro e w4 ⟨rfl,rfl⟩;go_wp2_with fail;refine (HN2.o w3).mono ?_;rintro e w4 ⟨rfl,rfl⟩;have HC:=zh (HP.o w3 HB3.o);have hru:=HLD.o w3 HB3.o;clear HN1 HN2;go_wp2_with fail;refine HC.o.mono ?_;rintro e w4 ⟨r',at_,v,hsy,rfl,hv,hb4⟩;have HB4:=zT HB3 hb4;obtain⟨ax,hax⟩:=HS.o;obtain rfl:r'=some r:=(hsy.det hax).1;obtain⟨qq,rfl,hq⟩:=Zn2 hv;have HR4:Hid (RlIs w4 w3.heap.size (some r) qq):=zh ⟨by rw[Ne,hq];simp,hv,hsy.sz⟩;have HX4:Hid (Blk w4 rb 87 #[.pointer none,.string ⟨#[]⟩,.string ⟨#[]⟩,.int .i64 0]):=zh ((HB4.o.block _ HR2.o.lt).trans HR2.o);have HZ3:Hid (w2.heap.size<=w3.heap.size):=zh HB3.o.size;have HRL:Hid (rb<w2.heap.size):=zh HR2.o.lt;clear hsy hv hb4 hax HC hru HP HLD hq
 go_wp2_with (first
  | (refine Zad _ rfl 87 (.tmp 8) (.tmp 46) rfl 0 (qArr qq p i now) rfl rfl HX4.o (by show 0+4<=4;omega) Zc0 (by simp[qArr,Value.oneCell']) ?_;intro w7 hb7 hk7 hs7)
  | fail)
 (try simp only[Exit.inBlock,Exit.then])
 simp only[qArr,putA,xq1,xq2,xq3]at hb7;have hx:Blk w7 rb 87 (qArr qq p i now):=hb7;have HBE:Hid (Below w.heap.size w w7):=zh ((HB2.o.trans (HB4.o.mono HB2.o.size)).trans (hk7.toBelow (fun i hi=>by rw[hi];exact HRB.o) (Nat.le_trans HB2.o.size HB4.o.size)))
 have HRE:Hid (RlIs w7 w.heap.size (some r) qq):=zh (by
  refine RlIs.low2 (RlIs.kept HR4.o hk7 (fun j hj=>?_)) (Nat.le_trans HB2.o.size HZ3.o);have:=HRL.o;have:=HZ3.o;omega)
 clear hb7 hk7 hs7;go_wp2_with fail;refine bodyPost_ret (Zci (rb:=rb) rfl rfl (Zil hx)) rfl ?_;exact⟨qq,rfl,HRE.o,HBE.o⟩
end Go.Proofs.YtnpfaajhgghpgaaGreatDoor
namespace Go.Proofs.YtnpfaajhgghpgaaGreatDoor
open Go.Shelf Go.RowKit Go.Maps
open Ru (Fz fzA fzX Nd holdsR RuleV ruleT Says errOf ErrAt TabAt)
theorem Zrt (s:Sg)(r:Option Nd)(h:SgOk s r)(p i:ByteArray)(now:Int)(hpz:p.size<=60)(hiz:i.size<=60)(ht:toldB p i now=false)(w:World)(hg:Lb2 w):Calls Tryz.prog 20 #[sgA s,.string p,.string i,.int .i64 now] w (AskN w):=by
 obtain⟨w1,hw1⟩:=zG (w.alloc (.cells (sgArr s) 32));have HX1:Hid (Blk w1 w.heap.size 32 (sgArr s)):=zB hw1;have HB1:=zA hw1;obtain⟨w2,hw2⟩:=zG (w1.alloc (.cells #[.pointer none,.string ⟨#[]⟩,.string ⟨#[]⟩,.int .i64 0] 87));obtain⟨rb,hrb⟩:=zG (w1.heap.size);have HR2:Hid (Blk w2 rb 87 #[.pointer none,.string ⟨#[]⟩,.string ⟨#[]⟩,.int .i64 0]):=zh (by rw[<-hw2,<-hrb];exact Blk.new _ _ _);have HX2:Hid (Blk w2 w.heap.size 32 (sgArr s)):=zh (by rw[<-hw2];exact HX1.o.alloc _);have HB2:Hid (Below w.heap.size w w2):=zh (by rw[<-hw2];exact HB1.o.alloc HB1.o.size _);have HRB:Hid (w.heap.size<=rb):=zh (by rw[<-hrb];exact HB1.o.size);have HRT:=zh (Zim s r h w2 (hg.keep HB2.o));have HN1:=zh (fun W=>name_any p W (by unfold maxLen;omega));have HN2:=zh (fun W=>name_any i W (by unfold maxLen;omega));have HT:=zh ht;have hsz:(sgArr s).size=22:=rfl;obtain⟨sa,hsa⟩:=zG (sgArr s);unfold sgA at HRT ⊢;rw[hsa]at hw1 HRT HX2 hsz ⊢;have HSI:Hid ((Tryz.prog.info? 32).map (·.size)=some sa.size):=zh (by rw[hsz];exact Zb6);clear h hg ht hpz hiz HX1 hsa hsz;go_enter Tryz.func20,Tryz.ntmps20
 go_wp2_with (first
  | (refine wpList_load_row rfl 32 _ rfl w.heap.size rfl 32 sa (0,0) _ HX2.o Tryz.underlying32 rfl HSI.o ?_)
  | fail)
 try rw[hrb]
 try rw[hw2]
 refine HRT.o.mono ?_;rintro e w3 ⟨rfl,hb3⟩;have HB3:=zT HB2 hb3;have HX3:Hid (Blk w3 rb 87 #[.pointer none,.string ⟨#[]⟩,.string ⟨#[]⟩,.int .i64 0]):=zX HR2 hb3;clear hb3 HRT hw1 hw2 hrb HB1 HB2 HX2 HSI HR2;go_wp2_with fail;refine (HN1.o w3).mono ?_;rintro e w4 ⟨rfl,rfl⟩;cases hnp:nameB p with
 | false=>
  go_wp2_with (first
   | (refine Zad _ rfl 87 (.tmp 8) (.tmp 34) rfl 0 #[.pointer none,.string ⟨#[]⟩,.string ⟨#[]⟩,.int .i64 0] rfl rfl HX3.o (by show 0+4<=4;omega) Zc0 (by simp[Value.oneCell']) ?_;intro w7 hb7 hk7 hs7)
   | fail)
  (try simp only[Exit.inBlock,Exit.then])
  simp only[putA,xq1,xq2,xq3]at hb7;have hx:Blk w7 rb 87 (qArr none ⟨#[]⟩ ⟨#[]⟩ 0):=hb7;have HBE:Hid (Below w.heap.size w w7):=zh (HB3.o.trans (hk7.toBelow (fun i hi=>by rw[hi];exact HRB.o) HB3.o.size));clear hb7 hk7 hs7;go_wp2_with fail;refine bodyPost_ret (Zci (rb:=rb) rfl rfl (Zil hx)) rfl ?_;exact⟨rfl,HBE.o⟩
 | true=>
  go_wp2_with fail;refine (HN2.o w3).mono ?_;rintro e w4 ⟨rfl,rfl⟩;cases hni:nameB i with
  | false=>
   go_wp2_with (first
    | (refine Zad _ rfl 87 (.tmp 8) (.tmp 34) rfl 0 #[.pointer none,.string ⟨#[]⟩,.string ⟨#[]⟩,.int .i64 0] rfl rfl HX3.o (by show 0+4<=4;omega) Zc0 (by simp[Value.oneCell']) ?_;intro w7 hb7 hk7 hs7)
    | fail)
   (try simp only[Exit.inBlock,Exit.then])
   simp only[putA,xq1,xq2,xq3]at hb7;have hx:Blk w7 rb 87 (qArr none ⟨#[]⟩ ⟨#[]⟩ 0):=hb7;have HBE:Hid (Below w.heap.size w w7):=zh (HB3.o.trans (hk7.toBelow (fun i hi=>by rw[hi];exact HRB.o) HB3.o.size));clear hb7 hk7 hs7;go_wp2_with fail;refine bodyPost_ret (Zci (rb:=rb) rfl rfl (Zil hx)) rfl ?_;exact⟨rfl,HBE.o⟩
  | true=>
   have ht:=HT.o;unfold toldB at ht;rw[hnp,hni,Bool.true_and,Bool.true_and,Bool.and_eq_false_iff]at ht;have ht:now<0\/1099511627776<now:=by
    rcases ht with ht|ht
    ·exact Or.inl (by have:=of_decide_eq_false ht;omega)
    ·exact Or.inr (by have:=of_decide_eq_false ht;omega)
   clear hnp hni HN1 HN2;by_cases hlo:now<0
   ·have hc1:decide (now<0)=true:=decide_eq_true hlo;clear ht
    go_wp2_with (first
     | (refine Zad _ rfl 87 (.tmp 8) (.tmp 34) rfl 0 #[.pointer none,.string ⟨#[]⟩,.string ⟨#[]⟩,.int .i64 0] rfl rfl HX3.o (by show 0+4<=4;omega) Zc0 (by simp[Value.oneCell']) ?_;intro w7 hb7 hk7 hs7)
     | fail)
    (try simp only[Exit.inBlock,Exit.then])
    simp only[putA,xq1,xq2,xq3]at hb7;have hx:Blk w7 rb 87 (qArr none ⟨#[]⟩ ⟨#[]⟩ 0):=hb7;have HBE:Hid (Below w.heap.size w w7):=zh (HB3.o.trans (hk7.toBelow (fun i hi=>by rw[hi];exact HRB.o) HB3.o.size));clear hb7 hk7 hs7;go_wp2_with fail;refine bodyPost_ret (Zci (rb:=rb) rfl rfl (Zil hx)) rfl ?_;exact⟨rfl,HBE.o⟩
   ·have hc1:decide (now<0)=false:=decide_eq_false hlo;have hc2:decide (1099511627776<now)=true:=decide_eq_true (by omega);clear ht
    go_wp2_with (first
     | (refine Zad _ rfl 87 (.tmp 8) (.tmp 34) rfl 0 #[.pointer none,.string ⟨#[]⟩,.string ⟨#[]⟩,.int .i64 0] rfl rfl HX3.o (by show 0+4<=4;omega) Zc0 (by simp[Value.oneCell']) ?_;intro w7 hb7 hk7 hs7)
     | fail)
    (try simp only[Exit.inBlock,Exit.then])
    simp only[putA,xq1,xq2,xq3]at hb7;have hx:Blk w7 rb 87 (qArr none ⟨#[]⟩ ⟨#[]⟩ 0):=hb7;have HBE:Hid (Below w.heap.size w w7):=zh (HB3.o.trans (hk7.toBelow (fun i hi=>by rw[hi];exact HRB.o) HB3.o.size));clear hb7 hk7 hs7;go_wp2_with fail;refine bodyPost_ret (Zci (rb:=rb) rfl rfl (Zil hx)) rfl ?_;exact⟨rfl,HBE.o⟩
theorem why_any {w:World}{wb ct cr:Nat}{c:Cfg}{E:List Ev}(h:WrAt w wb ct cr c E)(hE:∀e∈E,EvOk e)(hlen:E.length<=1000){q:Option Addr}{B:Nat}{R:Option (Option Nd)}(hr:RlIs w B R q)(hg:GlobAt w)(p i:ByteArray)(now:Int)(hp:p.size<=300)(hi:i.size<=300)(hnow:InR now) :
  Calls Tryz.prog 21 #[qA q p i now,.pointer (some ⟨wb,0,none⟩)] w fun e w'=>e = .returned (.int .i64 (whyW E p i now c.crowd c.span R:Nat))/\Below w.heap.size w w':=by
 obtain⟨w1,hw1⟩:=zG (w.alloc (.cells (qArr q p i now) 87));have HX1:Hid (Blk w1 w.heap.size 87 (qArr q p i now)):=zB hw1;have HB1:=zA hw1;obtain⟨x0,x1,x2,x3⟩:=zC4 HX1.o;have HC:=zh (of_any w1 wb ct cr c E p i now q (okP R) (h.below HB1.o) ((hr.below HB1.o).asks (hg.keep HB1.o (zr _))) hE hlen hp hi hnow (Zs3 hE hi));unfold qA;unfold qArr at hw1;clear h hE hr hg HX1 hp hi hnow;go_enter Tryz.func21,Tryz.ntmps21;go_wp2_with fail;refine HC.o.mono ?_;rintro e w2 ⟨rfl,hb2⟩;have HB2:=zT HB1 hb2;clear hb2 HC;go_wp2_with fail;go_ret;exact⟨rfl,HB2.o⟩
end Go.Proofs.YtnpfaajhgghpgaaGreatDoor
namespace Go.Proofs.YtnpfaajhgghpgaaGreatDoor
open Go.Shelf Go.RowKit Go.Maps
open Ru (Fz fzA fzX Nd holdsR RuleV ruleT Says errOf ErrAt TabAt)
def chC (u:Nat×Value):List Value:=[.int .i64 (u.1:Int),u.2]
def ChIn (w:World)(u:Nat×Value)(x:Nat×List Ev):Prop:=u.1=x.1/\∃A cp,u.2 = .slice A x.2.length cp/\EvsAt w w.heap.size A x.2/\(A=none->cp=0)
def ChsIn (w:World)(us:List (Nat×Value))(l:List (Nat×List Ev)):Prop:=us.length=l.length/\∀(k:Nat) u x,us[k]? = some u->l[k]? = some x->ChIn w u x
theorem ChIn.below {w w':World}{u:Nat×Value}{x:Nat×List Ev}(h:ChIn w u x)(hb:Below w.heap.size w w'):ChIn w' u x:=by
 obtain⟨h1,A,cp,h2,h3,h4⟩:=h;exact⟨h1,A,cp,h2,RowIn.more (h3.below hb) hb.size,h4⟩
theorem ChsIn.below {w w':World}{us:List (Nat×Value)}{l:List (Nat×List Ev)}(h:ChsIn w us l)(hb:Below w.heap.size w w'):ChsIn w' us l:=⟨h.1,fun k u x h1 h2=>(h.2 k u x h1 h2).below hb⟩
theorem ChsIn.snoc {w:World}{us:List (Nat×Value)}{l:List (Nat×List Ev)}{u:Nat×Value}{x:Nat×List Ev}(h:ChsIn w us l)(hu:ChIn w u x):ChsIn w (us++[u]) (l++[x]):=by
 refine⟨by simp[h.1],fun k v y h1 h2=>?_⟩;have hl:=h.1;by_cases hk:k<us.length
 ·rw[List.getElem?_append_left hk]at h1;rw[List.getElem?_append_left (by omega)]at h2;exact h.2 k v y h1 h2
 ·rw[List.getElem?_append_right (by omega)]at h1;rw[List.getElem?_append_right (by omega)]at h2;have hk1:=(List.getElem?_eq_some_iff.1 h1).1;simp at hk1;rw[show k - us.length=0 by omega]at h1;rw[show k - l.length=0 by omega]at h2;simp at h1 h2;subst h1;subst h2;exact hu
theorem Zos (u:Nat×Value):(chC u).length=2:=rfl
theorem Ztf:(Tryz.prog.info? 50).map (fun i=>(i.zero,i.size,i.bytes))=some (some (.agg #[.int .i64 0,.slice none 0 0]),2,32):=by kernel_rfl
def slN:Value->Nat
 | .slice _ n _=>n
 | _=>0
def WhOf (E:List Ev)(c:Cfg)(p i:ByteArray)(now:Int)(r:Option Nd)(w:World)(e:Ending)(w':World):Prop:=
 ∃l E2 A cp us,e = .returned (.slice A l.length cp)/\ChainP fmtB p i now c.crowd c.span (some r) E l E2/\RowIn w' w'.heap.size 2 A l.length (us.flatMap chC)/\ChsIn w' us l/\((A=none->cp=0)/\l.length<=cp)/\Below w.heap.size w w'
def Kp (g:Option Nat)(w:World)(P:World->Prop):Prop:=∀W,Kept (fun b=>g=some b) w W->P W
theorem Kp.self {g:Option Nat}{w:World}{P:World->Prop}(h:Kp g w P):P w:=h w (Kept.refl _ _)
theorem Kp.step {g:Option Nat}{w w':World}{P:World->Prop}(h:Kp g w P)(k:Kept (fun b=>g=some b) w w'):Kp g w' P:=fun W hW=>h W (k.trans hW)
theorem Kp.below {g:Option Nat}{w w':World}{P:World->Prop}(h:Kp g w P)(hb:Below w.heap.size w w'):Kp g w' P:=h.step (below_kept hb (zr _))
theorem Kp.append {g g':Option Nat}{w w':World}{P:World->Prop}(h:Kp g w P)(hg:w.grownBy w' g)(hn:g'=g\/g'=some w.heap.size):Kp g' w' P:=by
 rcases hn with rfl|rfl
 ·exact h.step ((Kept.refl _ _).grown hg (fun j hj=>Or.inl hj))
 ·intro W hW;refine h W (((Kept.refl _ w).grown hg (fun j hj=>Or.inl hj)).trans' hW (fun i hi ht=>?_));injection ht with ht;omega
theorem Zd1 {w:World}{base n:Nat}{e:TypeId}{size:Nat}{v:Value}{xs:List Value}(h:w.ownsRow base e size v n xs){g:Nat}(hg:v.ownBlock=some g):base<=g/\g<w.heap.size:=h.lt _ hg
theorem WorldAt.readK {w:World}{wb base:Nat}{c:Cfg}{E:List Ev}(h:WorldAt w wb base c E):∃ct cr,∀S W,Kept S w W->(∀q,S q->q<base)->WrAt W wb ct cr c E:=by
 obtain⟨v,a,last,b,τ,n,_,h⟩:=h;refine⟨b.ct,b.cr,fun S W hk hS=>?_⟩
 have h:=h.kept hk (fun q hq=>by
  by_cases h0:τ q=0
  ·exact h0
  ·have:=(h.low q h0).1;have:=hS q hq;omega)
 obtain⟨A,cp,hv⟩:=own_shape h.row;subst hv;obtain⟨F,hF,_⟩:=h.cat;obtain⟨U,hU,_⟩:=h.crw;refine⟨h.blk.lt,h.blk.cell 0,h.blk.cell 1,h.blk.cell 2,h.blk.cell 3,h.blk.cell 4,h.blk.cell 5,h.blk.cell 18,h.blk.cell 19,⟨F,hF⟩,⟨U,hU⟩,A,cp,h.blk.cell 6,RowIn.of_own h.row,fun hA=>?_⟩;subst hA;rcases h.row.2 with ⟨h1,_⟩|⟨g,cap,cur,h1,_⟩
 ·injection h1
 ·cases h1
theorem ChIn.new {w:World}{base y m cp:Nat}{A:Option Addr}{cs:List Ev}{g:Option Nat}(ho:w.ownsRow base 59 8 (.slice A m cp) m (cs.flatMap evC))(hm:cs.length=m)(hg:∀j,g=some j->j<base):Kp g w (fun W=>ChIn W (y,.slice A m cp) (y,cs)):=by
 intro W hW
 have hnil:A=none->cp=0:=fun hA=>by
  rcases ho.2 with ⟨h1,_⟩|⟨g,cap,cur,h1,_⟩
  ·cases h1;rfl
  ·rw[hA]at h1;cases h1
 have hr:=RowIn.of_own ho;refine⟨rfl,A,cp,by rw[hm],?_,hnil⟩;have hr2:EvsAt w w.heap.size A cs:=by
  unfold EvsAt;rw[hm];exact hr
 refine RowIn.more (Zgk hr2 hW (zr _) (fun ad had hgb=>?_)) hW.size;subst had;rcases ho.2 with ⟨h1,_⟩|⟨g1,cap,cur,h1,h2,_⟩
 ·cases h1
 ·cases h1;have:=hg _ hgb;simp at this;omega
theorem KpChs {g:Option Nat}{w:World}{us:List (Nat×Value)}{l:List (Nat×List Ev)}{u:Nat×Value}{x:Nat×List Ev}(h:Kp g w (fun W=>ChsIn W us l))(hu:Kp g w (fun W=>ChIn W u x)):Kp g w (fun W=>ChsIn W (us++[u]) (l++[x])):=fun W hW=>(h W hW).snoc (hu W hW)
theorem Ztg (us:List (Nat×Value))(u:Nat×Value):(us++[u]).flatMap chC=us.flatMap chC++chC u:=by simp
theorem Zt4 (w:World)(u:Nat×Value)(t:TypeId):RowIn (w.alloc (.cells #[.int .i64 (u.1:Int),u.2] t)) (w.heap.size+1) 2 (some ⟨w.heap.size,0,none⟩) 1 (chC u):=by
 refine⟨rfl,Or.inr ⟨w.heap.size,0,rfl,by omega,fun j v hu=>?_⟩⟩;rw[(Blk.new w t _).cell];rw[<-hu,Nat.zero_add];simp[chC]
theorem Zjn:(Tryz.prog.info? 50).map (·.size)=some 2:=by kernel_rfl
structure WofI (wr:World) (base:Nat) (c:Cfg) (E:List Ev) (p i:ByteArray) (now:Int) (r:Option Nd) (E':List Ev) (wb ct cr y0:Nat) (l0:List (Nat×List Ev)) (n:Nat) (A:Option Addr) (cp:Nat) (us:List (Nat×Value)):Prop where
 at_:Kp (Value.slice A n cp).ownBlock wr (fun W=>WrAt W wb ct cr c E')
 ok:WnE (200+12*y0) E'
 why:whyW E' p i now c.crowd c.span (some r)=0\/y0<whyW E' p i now c.crowd c.span (some r)
 chain:∀l E2,ChainP fmtB p i now c.crowd c.span (some r) E' l E2->ChainP fmtB p i now c.crowd c.span (some r) E (l0++l) E2
 len:l0.length=n
 row:wr.ownsRow base 50 2 (.slice A n cp) n (us.flatMap chC)
 ins:Kp (Value.slice A n cp).ownBlock wr (fun W=>ChsIn W us l0)
theorem WofI.done {w wr:World}{base:Nat}{c:Cfg}{E:List Ev}{p i:ByteArray}{now:Int}{r:Option Nd}{E':List Ev}{wb ct cr y0:Nat}{l0:List (Nat×List Ev)}{n:Nat}{A:Option Addr}{cp:Nat}{us:List (Nat×Value)}(h:WofI wr base c E p i now r E' wb ct cr y0 l0 n A cp us){w':World}(hb:Below wr.heap.size wr w')(h0:whyW E' p i now c.crowd c.span (some r)=0)(hw:Below w.heap.size w w'):WhOf E c p i now r w (.returned (.slice A n cp)) w':=by
 refine⟨l0,E',A,cp,us,by rw[h.len],?_,?_,(h.ins.below hb).self,⟨fun hA=>?_,by rw[h.len];exact (Zks h.row).1⟩,hw⟩
 ·have:=h.chain [] E' (.stop h0)
  rwa [List.append_nil]at this
 ·rw[h.len];exact RowIn.more ((RowIn.of_own h.row).below hb) hb.size
 ·rcases h.row.2 with ⟨h1,_⟩|⟨g,cap,cur,h1,_⟩
  ·cases h1;rfl
  ·rw[hA]at h1;cases h1
theorem whof_yes {w:World}{wb ct cr:Nat}{c:Cfg}{E:List Ev}(h:WrAt w wb ct cr c E)(hE:WnE 200 E)(hc:CfgOk c)(hcr:c.crowd<=12)(s:Sg)(r:Option Nd)(hs:SgOk s r)(p i:ByteArray)(now:Int)(ht:toldB p i now=true)(hg:Lb2 w) :
  Calls Tryz.prog 10 #[.pointer (some ⟨wb,0,none⟩),sgA s,.string p,.string i,.int .i64 now] w (WhOf E c p i now r w):=by
 obtain⟨hp,hi,hn1,hn2⟩:=Zek ht;have hpz:=Zay hp;have hiz:=Zay hi;obtain⟨w1,hw1⟩:=zG (w.alloc (.cells (sgArr s) 32));have HX1:Hid (Blk w1 w.heap.size 32 (sgArr s)):=zB hw1;have HB1:=zA hw1;have HAS:=zh (Zor s r hs p i now ht w1 (hg.keep HB1.o));have HW:=zh (h.below HB1.o);have HLB:Hid (∀W,Below w1.heap.size w1 W->Lb2 W):=zh (fun W hb=>(hg.keep HB1.o).keep hb);have HWN:=zh hE;have HCF:Hid (CfgOk c/\c.crowd<=12):=zh ⟨hc,hcr⟩;have HNM:Hid (nameB p=true/\nameB i=true/\0<=now/\now<=1099511627776/\p.size<=24/\i.size<=24):=zh ⟨hp,hi,hn1,hn2,hpz,hiz⟩;have HCR0:Hid (0<=c.crowd/\c.crowd<=1048576):=zh hc.crowd;have hsz:(sgArr s).size=22:=rfl;obtain⟨sa,hsa⟩:=zG (sgArr s);unfold sgA at HAS ⊢;rw[hsa]at hw1 HAS HX1 hsz ⊢;have HSI:Hid ((Tryz.prog.info? 32).map (·.size)=some sa.size):=zh (by rw[hsz];exact Zb6);clear h hE hc hcr hs hg ht hp hi hn1 hn2 hpz hiz hsa hsz;go_enter Tryz.func10,Tryz.ntmps10
 go_wp2_with (first
  | (refine wpList_load_row rfl 32 _ rfl w.heap.size rfl 32 sa (0,0) _ HX1.o Tryz.underlying32 rfl HSI.o ?_)
  | fail)
 refine HAS.o.mono ?_;rintro e w2 ⟨qq,rfl,HR2,hb2⟩;have HR2:=zh HR2;have HB2:Hid (Below w1.heap.size w1 w2):=zh hb2;clear hb2 HAS hw1 HX1 HSI;have HRZ:Hid (Below w1.heap.size w1 w2):=HB2
 go_wp2_with (first
  | (refine Zad _ rfl 87 (.tmp 11) (.tmp 24) rfl 0 (qArr qq p i now) rfl rfl (Blk.new _ _ _) (by show 0+4<=4;omega) Zc0 (by simp[qArr,Value.oneCell']) ?_;intro w3 hb3 hk3 hs3)
  | fail)
 (try simp only[Exit.inBlock,Exit.then])
 simp only[qArr,putA,xq1,xq2,xq3]at hb3;have hx3:Blk w3 w2.heap.size 87 (qArr qq p i now):=hb3;obtain⟨rb,hrb⟩:=zG (w2.heap.size);have HZ3:Hid (w1.heap.size<=w2.heap.size/\w2.heap.size<=w3.heap.size/\rb=w2.heap.size):=zh ⟨HB2.o.size,by have:=hk3.size;simp at this;omega,hrb.symm⟩;have HB3:Hid (Below w2.heap.size w2 w3):=zh (((Below.refl _ _).alloc (zr _) _).trans (hk3.toBelow (fun i hi=>by rw[hi];exact zr _) (by simp)));have HX3:Hid (Blk w3 rb 87 (qArr qq p i now)):=zh (by rw[<-hrb];exact hx3);clear hb3 hk3 hs3 hx3;try rw[hrb]
 clear hrb;have HB13:=zT HB2 HB3.o;have HR3:=zh (HR2.o.below HB3.o);have HW3:=zh (HW.o.below HB13.o);clear HW HR2 HB2 HB3;obtain⟨qv,hqv⟩:=zG (qArr qq p i now);have HQS:Hid ((Tryz.prog.info? 87).map (·.size)=some qv.size):=zh (by rw[Zc0,<-hqv];rfl)
 have HWHY:Hid (∀W wb' ct' cr' E',Below w3.heap.size w3 W->WrAt W wb' ct' cr' c E'->WnE 300 E'->Calls Tryz.prog 21 #[.agg qv,.pointer (some ⟨wb',0,none⟩)] W fun e w'=>e = .returned (.int .i64 (whyW E' p i now c.crowd c.span (some r):Nat))/\Below W.heap.size W w'):=zh (fun W wb' ct' cr' E' hb hW hE=>by
  have hb1:=HB13.o.trans (hb.mono HB13.o.size);obtain⟨hp,hi,hn1,hn2,hpz,hiz⟩:=HNM.o;rw[<-hqv];exact why_any hW hE.ok (by have:=hE.few;omega) (HR3.o.below hb) (HLB.o W hb1).g p i now (by omega) (by omega) (by unfold InR;omega))
 have HCUR:Hid (∀W wb' ct' cr' E' y,Below w3.heap.size w3 W->WrAt W wb' ct' cr' c E'->WnE 300 E'->1<=y/\y<=6->Calls Tryz.prog 22 #[.agg qv,.pointer (some ⟨wb',0,none⟩),.int .i64 (y:Nat)] W (NewR W (cureP E' y p i now c.crowd))):=zh (fun W wb' ct' cr' E' y hb hW hE hy=>by
  have hb1:=HB13.o.trans (hb.mono HB13.o.size);obtain⟨hp,hi,hn1,hn2,hpz,hiz⟩:=HNM.o;rw[<-hqv];exact Zq9 hW hE.ok (by have:=hE.few;omega) hE.closed.sorted HCR0.o (HLB.o W hb1).t qq p i now (by omega) (by omega) y hy)
 rw[hqv]at HX3;clear hqv HR3;go_wp2_with fail;go_loopw [0,13] (fun tv lv wr=>∃(E':List Ev) (wb' ct' cr' y0 n:Nat) (A:Option Addr) (cp:Nat) (l0:List (Nat×List Ev)) (us:List (Nat×Value)),tv = .pointer (some ⟨wb',0,none⟩)/\lv = .slice A n cp/\y0<=6/\n<=y0/\Hid (WofI wr w3.heap.size c E p i now r E' wb' ct' cr' y0 l0 n A cp us)/\Hid (Below w3.heap.size w3 wr)) (fun _ lv _=>7 - slN lv)
 case atStart=>exact⟨E,wb,ct,cr,0,0,none,0,[],[],rfl,rfl,by omega,by omega,zh ⟨fun W hW=>HW3.o.below (hW.toBelow (fun i hi=>by cases hi) (zr _)),HWN.o,by omega,fun l E2 h=>h,rfl,own_nil _ _ _ _,fun W hW=>⟨rfl,fun k u x h=>by simp at h⟩⟩,zh (Below.refl _ _)⟩
 case round=>
  obtain⟨E',wb',ct',cr',y0,n,A,cp,l0,us,rfl,rfl,hy0,hny,HI,HBR⟩:=hrel;have HXR:Hid (Blk wr rb 87 qv):=zh ((HBR.o.block _ HX3.o.lt).trans HX3.o);have HE3:Hid (WnE 300 E'):=zh ⟨HI.o.ok.closed,HI.o.ok.ok,by have:=HI.o.ok.few;omega⟩;have HC:=zh (HWHY.o wr wb' ct' cr' E' HBR.o HI.o.at_.self HE3.o);obtain⟨y,hy⟩:=zG (whyW E' p i now c.crowd c.span (some r));rw[hy]at HC;have HY:=zh hy;have HYL:Hid (y<=6):=zh (by rw[<-hy];exact Zdf _ _ _ _ _);clear hy
  go_wp2_with (first
   | (refine wpList_load_row rfl 87 _ rfl rb rfl 87 qv (0,0) _ HXR.o Tryz.underlying87 rfl HQS.o ?_)
   | fail)
  refine HC.o.mono ?_;rintro e w4 ⟨rfl,hb4⟩;have HB4:Hid (Below wr.heap.size wr w4):=zh hb4;clear hb4 HC;by_cases h0:y=0
  ·have d0:((y:Int) == 0)=true:=by rw[beq_iff_eq];omega
   have HF:=zh (HI.o.done (w:=w) HB4.o (by rw[HY.o,h0]) (HB1.o.trans ((HB13.o.trans ((HBR.o.trans (HB4.o.mono HBR.o.size)).mono HB13.o.size)).mono HB1.o.size)));clear h0;go_wp2_with fail;go_ret;exact HF.o
  ·have d0:((y:Int) == 0)=false:=by rw[beq_eq_false_iff_ne];omega
   have HXR:Hid (Blk w4 rb 87 qv):=zh ((HB4.o.block _ HXR.o.lt).trans HXR.o);have HBR4:=zT HBR HB4.o;have HC:=zh (HCUR.o w4 wb' ct' cr' E' y HBR4.o (HI.o.at_.below HB4.o).self HE3.o ⟨by omega,HYL.o⟩);obtain⟨cs,hcs⟩:=zG (cureP E' y p i now c.crowd);rw[hcs]at HC;have HCS:=zh hcs;clear hcs
   go_wp2_with (first
    | (refine wpList_load_row rfl 87 _ rfl rb rfl 87 qv (0,0) _ HXR.o Tryz.underlying87 rfl HQS.o ?_)
    | fail)
   refine HC.o.mono ?_;rintro e w5 ⟨A5,m,c5,rfl,hm5,ho5,hb5⟩;obtain⟨g,hgo⟩:=zG ((Value.slice A n cp).ownBlock);have HOB:Hid (∀j,g=some j->w3.heap.size<=j/\j<wr.heap.size):=zh (fun j hj=>Zd1 HI.o.row (by rw[hgo,hj]));have HZ5:Hid (wr.heap.size<=w4.heap.size/\w4.heap.size<=w5.heap.size/\w3.heap.size<=wr.heap.size):=zh ⟨HB4.o.size,hb5.size,HBR.o.size⟩;have HNE:=zh (ChIn.new (y:=y) (g:=g) ho5 hm5 (fun j hj=>by have:=(HOB.o j hj).2;have:=HZ5.o;omega));have HB5:=zT HB4 hb5;have HM5:Hid (cs.length=m):=zh hm5;clear ho5 hm5 hb5 HC HXR
   go_upto_region 9 with (first
    | (refine Zad _ rfl 50 (.tmp 15) (.tmp 39) rfl 0 #[.int .i64 (y:Int),.slice A5 m c5] rfl rfl (Blk.new _ _ _) (by show 0+2<=2;omega) Zjn (by simp[Value.oneCell']) ?_;intro w6 hb6 hk6 hs6)
    | fail)
   (try simp only[Exit.inBlock,Exit.then])
   simp only[putA,xq1,xq2,xq3]at hb6;have HB6:Hid (Below wr.heap.size wr w6):=zh (HB5.o.trans ((((Below.refl _ _).alloc (zr _) _).trans (hk6.toBelow (fun i hi=>by rw[hi];exact zr _) (by simp))).mono HB5.o.size));have HB56:Hid (Below w5.heap.size w5 w6):=zh (((Below.refl _ _).alloc (zr _) _).trans (hk6.toBelow (fun i hi=>by rw[hi];exact zr _) (by simp)));obtain⟨cb,hcb⟩:=zG (w5.heap.size);have HC6:Hid (Blk w6 cb 50 #[.int .i64 (y:Int),.slice A5 m c5]):=zh (by rw[<-hcb];exact hb6);have HCB:Hid (wr.heap.size<=cb/\cb<w6.heap.size):=zh ⟨by have:=HZ5.o;omega,HC6.o.lt⟩;clear hb6 hk6 hs6;try rw[hcb]
   clear hcb;have HO6:=zh (Ru.Za9 HI.o.row HB6.o);have HR6:Hid (RowIn (w6.alloc (.cells #[.int .i64 (y:Int),.slice A5 m c5] 50)) (w6.heap.size+1) 2 (some ⟨w6.heap.size,0,none⟩) 1 (chC (y,.slice A5 m c5))):=zh (Zt4 w6 (y,.slice A5 m c5) _);have hz3:w3.heap.size<=w6.heap.size+1:=by have:=HBR.o.size;have:=HB6.o.size;omega
   obtain⟨i0,hi0,hq0,hq1,hq2⟩:=info_parts Ztf
   go_upto_region 10 with (first
    | (refine wpList_load_row rfl 50 _ rfl cb rfl 50 #[.int .i64 (y:Int),.slice A5 m c5] (0,0) _ HC6.o Tryz.underlying50 rfl Zjn ?_)
    | (at_builtin;refine Zaa _ rfl _ _ 45 rfl w3.heap.size 50 i0 _ 2 32 Tryz.underlying45 hi0 hq0 hq1 hq2 rfl (by omega) (.slice A n cp) n _ rfl (HO6.o.alloc _) (w6.heap.size+1) (some ⟨w6.heap.size,0,none⟩) 1 1 (chC (y,.slice A5 m c5)) rfl HR6.o (fun h=>by cases h) (by intro u hu;simp only[chC,List.mem_cons,List.not_mem_nil,or_false]at hu;rcases hu with rfl|rfl <;> rfl) (by unfold maxLen;omega) (by omega) (by simp;omega) ?_;intro v9 w9 ho9 hg9 hv9)
    | fail)
   obtain⟨A9,c9,rfl⟩:=Zbh ho9;have HAL:Hid (Below w6.heap.size w6 (w6.alloc (.cells #[.int .i64 (y:Int),.slice A5 m c5] 50))):=zh ((Below.refl _ _).alloc (zr _) _);rw[<-Ztg us (y,.slice A5 m c5)]at ho9;have HO9:=zh ho9;have HAT9:=zh (((HI.o.at_.below HB6.o).below HAL.o).append hg9 hv9);have HNE6:=HNE.o.below HB56.o;rw[<-hgo]at HNE6;have HIN9:=zh (((KpChs (HI.o.ins.below HB6.o) HNE6).below HAL.o).append hg9 hv9);have HOB2:Hid (∀j,(Value.slice A n cp).ownBlock=some j->w3.heap.size<=j/\j<wr.heap.size):=zh (fun j hj=>HOB.o j (by rw[<-hgo];exact hj));have HB9:Hid (Below w3.heap.size w3 w9):=zh (((HBR.o.trans (HB6.o.mono HBR.o.size)).alloc (by have:=HB6.o.size;have:=HBR.o.size;omega) _).grown hg9 (by simp;have:=HB6.o.size;have:=HBR.o.size;omega) (fun j hj=>(HOB2.o j hj).1));have HC9:Hid (Blk w9 cb 50 #[.int .i64 (y:Int),.slice A5 m c5]):=zh ((HC6.o.alloc _).grown hg9 (fun h=>by have:=(HOB2.o cb h.symm).2;have:=HCB.o.1;omega));have HXR:Hid (Blk w9 rb 87 qv):=zh ((HB9.o.block _ HX3.o.lt).trans HX3.o);have HBW9:Hid (Below w.heap.size w w9):=zh (HB1.o.trans ((HB13.o.trans (HB9.o.mono HB13.o.size)).mono HB1.o.size));clear ho9 hg9 hv9 HNE6 HAL HO6 HR6 hz3 HC6 HB56 HNE hi0 hq0 hq1 hq2;have x1:w9.cell? ⟨cb,1,none⟩=some (.slice A5 m c5):=HC9.o.cell 1;by_cases hm0:m=0
   ·have d1:((m:Int) == 0)=true:=by rw[beq_iff_eq];omega
    have hcs:cs = []:=List.length_eq_zero_iff.1 (by rw[HM5.o,hm0])
    have HF:Hid (WhOf E c p i now r w (.returned (.slice A9 (n+1) c9)) w9):=zh (by
     subst hcs;refine⟨l0++[(y,[])],E',A9,c9,us++[(y,.slice A5 m c5)],by rw[List.length_append,HI.o.len];rfl,HI.o.chain _ _ (.none HY.o h0 HCS.o),?_,HIN9.o.self,⟨fun hA=>?_,by rw[List.length_append,HI.o.len];exact (Zks HO9.o).1⟩,HBW9.o⟩
     ·rw[List.length_append,HI.o.len];exact RowIn.of_own HO9.o
     ·rcases HO9.o.2 with ⟨h1,_⟩|⟨g,cap,cur,h1,_⟩
      ·cases h1
      ·rw[hA]at h1;cases h1)
    clear hm0 hcs;go_wp2_with fail;go_ret;exact HF.o
   ·have d1:((m:Int) == 0)=false:=by rw[beq_eq_false_iff_ne];omega
    have hcs:cs≠[]:=fun h=>hm0 (by rw[<-HM5.o,h];rfl);have HNN:=zh hcs;clear hm0 hcs;go_upto_region 12 with fail;have HSC:Hid (∀W,Below w9.heap.size w9 W->World.cell? W ⟨cb,1,none⟩=some (.slice A5 m c5)):=zh (fun W hb=>(hb.cell (p:=⟨cb,1,none⟩) HC9.o.lt).trans (HC9.o.cell 1));have HCFG:Hid (∀W,Below w9.heap.size w9 W->Calls Tryz.prog 23 #[.pointer (some ⟨wb',0,none⟩)] W fun e w'=>e = .returned (cfgA c)/\Below W.heap.size W w'):=zh (fun W hb=>Zc8 (HAT9.o.below hb).self);have HEVS:Hid (∀W,Below w9.heap.size w9 W->Calls Tryz.prog 24 #[.pointer (some ⟨wb',0,none⟩)] W fun e w'=>∃A cp,e = .returned (.slice A E'.length cp)/\w'.ownsRow W.heap.size 59 8 (.slice A E'.length cp) E'.length (E'.flatMap evC)/\Below W.heap.size W w'):=zh (fun W hb=>Zch (HAT9.o.below hb).self (by have:=HE3.o.few;omega));obtain⟨ne,hne⟩:=zG (E'.length);have HNL:Hid (E'.length=ne/\ne<=300):=zh ⟨hne,by have:=HE3.o.few;omega⟩;rw[hne]at HEVS;clear hne;have HML:Hid (m<=12):=zh (by rw[<-HM5.o,<-HCS.o];exact Zhg HCF.o.2)
    have HOK:Hid (∀e∈E'++cs,EvOk e):=zh (fun e he=>by
     rcases List.mem_append.1 he with h|h
     ·exact HE3.o.ok e h
     ·obtain⟨hp,hi,hn1,hn2,_⟩:=HNM.o;exact Zjj HE3.o.ok hp hi ⟨hn1,hn2⟩ (by have:=HE3.o.few;omega) e (by rw[HCS.o];exact h))
    have HR9:Hid (RowIn w9 w9.heap.size 8 A5 m (cs.flatMap evC)/\(A5=none->c5=0)):=zh (by
     have hl:=HIN9.o.self.1;simp only[List.length_append,List.length_singleton]at hl;obtain⟨_,A',cp',h2,h3,h4⟩:=HIN9.o.self.2 l0.length (y,.slice A5 m c5) (y,cs) (by rw[List.getElem?_append_right (by omega),show l0.length - us.length=0 by omega];rfl) (by simp);cases h2;unfold EvsAt at h3;rw[HM5.o]at h3;exact⟨h3,h4⟩)
    have HZ9:Hid (Below w3.heap.size w3 w9):=HB9;refine Zar (fun W=>Below w9.heap.size w9 W) [(0,false),(2,false),(4,false),(5,false),(1,true),(3,true),(6,true),(7,true),(8,false),(9,false),(10,false),(11,false),(12,false)] (by kernel_rfl) (by kernel_rfl) (below_drew (Below.refl _ _)) ?_;simp only[planL,xq4,xq5];obtain⟨wd,hwd⟩:=zG (w9.drew);have HBD:=zD hwd;rw[hwd];clear hwd x1
    repeat ((first|(refine Zaf _ (by rfl) (fun W hW=>by (have x1:=HSC.o W hW;go_simp;try with_reducible rfl)) ?_)|(refine Zac (by rfl) ?_));simp only[Act.put,xq1,xq2,xq3])
    refine Zae ?_;have HC:=zh (HCFG.o wd HBD.o);unfold cfgA at HC;go_wp2_with fail;refine HC.o.mono ?_;rintro e w10 ⟨rfl,hb10⟩;have HB10:=zT HBD hb10;clear hb10 HC HCFG;go_wp2_with fail;refine⟨HB10.o,?_⟩
    repeat ((first|(refine Zaf _ (by rfl) (fun W hW=>by (have x1:=HSC.o W hW;go_simp;try with_reducible rfl)) ?_)|(refine Zac (by rfl) ?_));simp only[Act.put,xq1,xq2,xq3])
    refine Zae ?_;have HC:=zh (HEVS.o w10 HB10.o);go_wp2_with fail;refine HC.o.mono ?_;rintro e w11 ⟨A11,c11,rfl,ho11,hb11⟩;have HB11:=zT HB10 hb11;have HO11:=zh ho11;have HZ11:Hid (w9.heap.size<=w10.heap.size/\w10.heap.size<=w11.heap.size):=zh ⟨HB10.o.size,hb11.size⟩;clear ho11 hb11 HC HEVS;go_wp2_with fail;refine⟨HB11.o,?_⟩
    repeat ((first|(refine Zaf _ (by rfl) (fun W hW=>by (have x1:=HSC.o W hW;go_simp;try with_reducible rfl)) ?_)|(refine Zac (by rfl) ?_));simp only[Act.put,xq1,xq2,xq3])
    refine Zae ?_;obtain⟨i1,hi1,hy1,hy2,hy3⟩:=info_parts Zdd;have HR11:=zh (HR9.o.1.below HB11.o);refine Zaa _ rfl _ _ 23 rfl w10.heap.size 59 i1 _ 8 96 Tryz.underlying23 hi1 hy1 hy2 hy3 rfl (by omega) (.slice A11 ne c11) ne _ rfl HO11.o w9.heap.size A5 m c5 (cs.flatMap evC) rfl HR11.o HR9.o.2 (Zb1 cs) (by have:=HNL.o;have:=HML.o;unfold maxLen;omega) (by have:=HNL.o;have:=HML.o;omega) HZ11.o.2 ?_;intro v12 w12 ho12 hg12 hv12;obtain⟨A12,c12,rfl⟩:=Zbh ho12;rw[<-List.flatMap_append]at ho12;have HB12:Hid (Below w9.heap.size w9 w12):=zh (HB11.o.grown hg12 HB11.o.size (fun j hj=>by have:=(Zd1 HO11.o hj).1;have:=HZ11.o;omega));have HC:=zh (wof_any c w12 w12.heap.size A12 (E'++cs) (ne+m) c12 HCF.o.1 (by rw[List.length_append,HNL.o.1,HM5.o]) (by unfold EvsAt;rw[List.length_append,HNL.o.1,HM5.o];exact RowIn.of_own ho12) (zr _) (by have:=HNL.o;have:=HML.o;omega) HOK.o (HLB.o w12 (HB13.o.trans ((HZ9.o.trans (HB12.o.mono HZ9.o.size)).mono HB13.o.size))).g (HLB.o w12 (HB13.o.trans ((HZ9.o.trans (HB12.o.mono HZ9.o.size)).mono HB13.o.size))).k (HLB.o w12 (HB13.o.trans ((HZ9.o.trans (HB12.o.mono HZ9.o.size)).mono HB13.o.size))).t);unfold cfgA at HC;clear ho12 hg12 hv12 hi1 hy1 hy2 hy3 HR11 HO11;go_wp2_with fail;refine⟨HB12.o,?_⟩
    repeat ((first|(refine Zaf _ (by rfl) (fun W hW=>by (have x1:=HSC.o W hW;go_simp;try with_reducible rfl)) ?_)|(refine Zac (by rfl) ?_));simp only[Act.put,xq1,xq2,xq3])
    refine Zae ?_;go_wp2_with fail;refine HC.o.mono ?_;rintro e w13 ⟨wb2,base2,E2,rfl,han,hwa,hbs,hb13⟩;have HB13b:=zT HB12 hb13;obtain⟨ct2,cr2,hK⟩:=hwa.readK;have HK:=zh hK;have HAN:=zh han;have HBS:Hid (w9.heap.size<=base2):=zh (Nat.le_trans HB12.o.size hbs);clear hwa hK han hbs hb13 HC;go_wp2_with fail;refine⟨HB13b.o,?_⟩
    repeat ((first|(refine Zaf _ (by rfl) (fun W hW=>by (have x1:=HSC.o W hW;go_simp;try with_reducible rfl)) ?_)|(refine Zac (by rfl) ?_));simp only[Act.put,xq1,xq2,xq3])
    refine Zah ?_;have hyy:y0<y:=by
     rcases HI.o.why with h|h
     ·rw[HY.o]at h;omega
     ·rw[HY.o]at h;exact h
    go_wp2_with fail;go_roundw
    case rel=>
     refine⟨E2,wb2,ct2,cr2,y,n+1,A9,c9,l0++[(y,cs)],us++[(y,.slice A5 m c5)],rfl,rfl,HYL.o,by omega,zh ⟨fun W hW=>HK.o _ W hW (fun q hq=>by have:=(Zd1 HO9.o hq).2;have:=HBS.o;omega),?_,?_,fun l E3 h=>?_,by rw[List.length_append,HI.o.len];rfl,Ru.Za9 HO9.o HB13b.o,HIN9.o.below HB13b.o⟩,zh (HZ9.o.trans (HB13b.o.mono HZ9.o.size))⟩
     ·obtain⟨hp,hi,hn1,hn2,_⟩:=HNM.o;have hst:=HI.o.ok.step (fm:=fmtB) (y:=y) (p:=p) (i:=i) (now:=now) (crowd:=c.crowd) hp hi ⟨hn1,hn2⟩ HCF.o.2 (by omega) (by rw[HCS.o];exact HAN.o);exact⟨hst.closed,hst.ok,by have:=hst.few;omega⟩
     ·exact Ze1 HI.o.ok.closed HI.o.ok.may HY.o h0 (by rw[HCS.o];exact HNN.o) (by rw[HCS.o];exact HAN.o)
     ·rw[List.append_assoc];exact HI.o.chain _ _ (.more HY.o h0 HCS.o HNN.o HAN.o h)
    case measure=>simp[slN];omega
end Go.Proofs.YtnpfaajhgghpgaaGreatDoor

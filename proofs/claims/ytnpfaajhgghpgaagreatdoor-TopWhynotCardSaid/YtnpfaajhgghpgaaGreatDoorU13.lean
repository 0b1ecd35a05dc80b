/- A part of the joined base. -/
import Derived.Test.YtnpfaajhgghpgaaGreatDoorU12
import Derived.Test.YtnpfaajhgghpgaaGreatDoorU09
set_option linter.unusedVariables false
set_option maxHeartbeats 8000000
set_option maxRecDepth 100000
namespace Go.Proofs.YtnpfaajhgghpgaaGreatDoor
open Go.Shelf Go.RowKit Go.Maps
structure Cfg where
 half:Int
 width:Int
 gap:Int
 span:Int
 floor:Int
 crowd:Int
def cfgA (c:Cfg):Value:=.agg #[.int .i64 c.half,.int .i64 c.width,.int .i64 c.gap,.int .i64 c.span,.int .i64 c.floor,.int .i64 c.crowd]
structure Wb where
 ab:Nat
 fb:Nat
 ct:Nat
 cr:Nat
 dc:Nat
 pn:Nat
 ss:Nat
def wdCells (c:Cfg)(v:Value)(a:Bool)(e:Ev)(b:Wb):Array Value:=#[.int .i64 c.half,.int .i64 c.width,.int .i64 c.gap,.int .i64 c.span,.int .i64 c.floor,.int .i64 c.crowd,v,.bool a,.string e.src,.int .i64 e.num,.int .i64 e.tick,.int .i64 e.kind,.string e.person,.string e.item,.int .i64 e.value,.string e.text,.map (some b.ab),.map (some b.fb),.pointer (some ⟨b.ct,0,none⟩),.pointer (some ⟨b.cr,0,none⟩),.pointer (some ⟨b.dc,0,none⟩),.pointer (some ⟨b.pn,0,none⟩),.pointer (some ⟨b.ss,0,none⟩),.pointer none]
def idB (es:List Ev)(s:ByteArray)(n:Int):Bool:=es.any fun e=>decide (e.src=s/\e.num=n)
def idF (es:List Ev)(s:ByteArray)(n:Int):Option Value:=if idB es s n then some (.bool true) else none
theorem Zpi (es:List Ev)(e:Ev)(s:ByteArray)(n:Int):idF (es++[e]) s n=updI (idF es) e.src e.num (.bool true) s n:=by
 unfold idF updI idB;rw[List.any_append];by_cases h:s=e.src/\n=e.num
 ·obtain⟨rfl,rfl⟩:=h;simp
 ·rw[if_neg h];have:([e].any fun e=>decide (e.src=s/\e.num=n))=false:=by
   simp only[List.any_cons,List.any_nil,Bool.or_false,decide_eq_false_iff_not];exact fun hh=>h ⟨hh.1.symm,hh.2.symm⟩
  rw[this,Bool.or_false]
def fgB (es:List Ev)(p:ByteArray):Bool:=es.any fun e=>decide (e.kind=14/\e.person=p)
theorem Zka (es:List Ev)(e:Ev):fgB (es++[e])=fun y=>fgB es y || decide (e.kind=14/\e.person=y):=by
 funext y
 unfold fgB;rw[List.any_append];simp
theorem Ztt {es:List Ev}{e:Ev}(h:e.kind≠14):fgB (es++[e])=fgB es:=by
 rw[Zka]
 funext y
 simp[h]
theorem Zse {es:List Ev}{e:Ev}(h:e.kind=14):fgB (es++[e])=fun y=>fgB es y || decide (y=e.person):=by
 rw[Zka]
 funext y
 by_cases hy:y=e.person
 ·simp[h,hy]
 ·simp[h,hy,Ne.symm hy]
structure WdG (w:World) (wb base:Nat) (c:Cfg) (v:Value) (a:Bool) (last:Ev) (b:Wb) (τ:Nat->Nat) (n:Nat) (es ad:List Ev) (S:ByteArray->Bool) (th:List Ev) (rs:List Rw):Prop where
 blk:Blk w wb 75 (wdCells c v a last b)
 row:w.ownsRow base 59 8 v es.length (es.flatMap evC)
 add:IsI okBool w b.ab n (idF ad)
 fgt:MapIs Tryz.prog 9 okBool w b.fb n (mapG (stG S))
 cat:∃F,Ct.CatAt w b.ct F th/\∀q,F q->τ q=4
 crw:∃U,CrAt w b.cr (halfP c.half) U rs/\∀q,U q->τ q=5
 pop:∃B,DcAt w b.dc B n/\∀q,B q->τ q=6
 pan:∃B,PnAt w b.pn B n/\∀q,B q->τ q=7
 ses:∃B,SsAt w b.ss B n/\∀q,B q->τ q=8
 tw:τ wb=1
 ta:τ b.ab=2
 tf:τ b.fb=3
 tr:∀g,v.ownBlock=some g->τ g=9
 low:∀q,τ q≠0->base<=q/\q<w.heap.size
section
variable {w w' : World} {wb base n n' : Nat} {c : Cfg} {v v' : Value} {a a' : Bool} {last last' : Ev} {b : Wb} {τ : Nat -> Nat} {es ad : List Ev} {S : ByteArray -> Bool} {th : List Ev} {rs : List Rw} {T : Nat -> Prop}
theorem WdG.kept (h:WdG w wb base c v a last b τ n es ad S th rs)(k:Kept T w w')(hT:∀q,T q->τ q=0):WdG w' wb base c v a last b τ n es ad S th rs:=by
 have off:∀(m:Nat) (B:Nat->Prop),(∀q,B q->τ q=m+1)->∀q,B q->¬T q:=fun m B hB q hq ht=>by
  have h1:=hB q hq;rw[hT q ht]at h1;cases h1
 have off1:∀(m q:Nat),τ q=m+1->¬T q:=fun m q hq ht=>by rw[hT q ht]at hq;cases hq
 obtain⟨F,hF,hF2⟩:=h.cat;obtain⟨U,hU,hU2⟩:=h.crw;obtain⟨B6,h6,h62⟩:=h.pop;obtain⟨B7,h7,h72⟩:=h.pan;obtain⟨B8,h8,h82⟩:=h.ses;exact⟨h.blk.kept k (off1 0 _ h.tw),owns_kept h.row k (fun g hg=>off1 8 _ (h.tr g hg)),h.add.kept k (off1 1 _ h.ta),h.fgt.kept k (off1 2 _ h.tf),⟨F,hF.kept k (off 3 F hF2),hF2⟩,⟨U,hU.kept k (off 4 U hU2),hU2⟩,⟨B6,h6.kept k (off 5 B6 h62),h62⟩,⟨B7,h7.kept k (off 6 B7 h72),h72⟩,⟨B8,h8.kept k (off 7 B8 h82),h82⟩,h.tw,h.ta,h.tf,h.tr,fun q hq=>⟨(h.low q hq).1,Nat.lt_of_lt_of_le (h.low q hq).2 k.size⟩⟩
theorem WdG.below (h:WdG w wb base c v a last b τ n es ad S th rs)(k:Below w.heap.size w w'):WdG w' wb base c v a last b τ n es ad S th rs:=h.kept (below_kept (S:=fun _=>False) k (zr _)) (fun _ h=>h.elim)
theorem WdG.mono (h:WdG w wb base c v a last b τ n es ad S th rs)(hn:n<=n'):WdG w wb base c v a last b τ n' es ad S th rs:=by
 obtain⟨B6,h6,h62⟩:=h.pop;obtain⟨B7,h7,h72⟩:=h.pan;obtain⟨B8,h8,h82⟩:=h.ses;exact⟨h.blk,h.row,h.add.mono hn,h.fgt.mono hn,h.cat,h.crw,⟨B6,h6.mono hn,h62⟩,⟨B7,h7.mono hn,h72⟩,⟨B8,h8.mono hn,h82⟩,h.tw,h.ta,h.tf,h.tr,h.low⟩
def tauM (τ:Nat->Nat)(lo hi m:Nat):Nat->Nat:=fun q=>if q<lo then τ q else if q<hi then m else 0
structure Rest (m:Nat) (w:World) (wb base:Nat) (c:Cfg) (v:Value) (a:Bool) (last:Ev) (b:Wb) (τ:Nat->Nat) (n:Nat) (es ad:List Ev) (S:ByteArray->Bool) (th:List Ev) (rs:List Rw):Prop where
 blk:m≠1->Blk w wb 75 (wdCells c v a last b)
 row:m≠9->w.ownsRow base 59 8 v es.length (es.flatMap evC)
 add:m≠2->IsI okBool w b.ab n (idF ad)
 fgt:m≠3->MapIs Tryz.prog 9 okBool w b.fb n (mapG (stG S))
 cat:m≠4->∃F,Ct.CatAt w b.ct F th/\∀q,F q->τ q=4
 crw:m≠5->∃U,CrAt w b.cr (halfP c.half) U rs/\∀q,U q->τ q=5
 pop:m≠6->∃B,DcAt w b.dc B n/\∀q,B q->τ q=6
 pan:m≠7->∃B,PnAt w b.pn B n/\∀q,B q->τ q=7
 ses:m≠8->∃B,SsAt w b.ss B n/\∀q,B q->τ q=8
 tw:τ wb=1
 ta:τ b.ab=2
 tf:τ b.fb=3
 tr:m≠9->∀g,v.ownBlock=some g->τ g=9
 low:∀q,τ q≠0->base<=q/\q<w.heap.size
theorem Zat {lo hi m q:Nat}(h:q<lo):tauM τ lo hi m q=τ q:=if_pos h
theorem Zkb {lo hi m q:Nat}(h:lo<=q)(h2:q<hi):tauM τ lo hi m q=m:=by unfold tauM;rw[if_neg (by omega),if_pos h2]
theorem WdG.rest (h:WdG w wb base c v a last b τ n es ad S th rs){m:Nat}(k:Kept (fun q=>τ q=m) w w')(hm:1<=m)(hb:base<=w.heap.size):Rest m w' wb base c v a last b (tauM τ w.heap.size w'.heap.size m) n es ad S th rs:=by
 have lt:∀(j q:Nat),τ q=j+1->q<w.heap.size:=fun j q hq=>(h.low q (by rw[hq];omega)).2;have old:∀(j q:Nat),τ q=j+1->tauM τ w.heap.size w'.heap.size m q=j+1:=fun j q hq=>by rw[Zat (lt j q hq)];exact hq
 have off1:∀(j q:Nat),m≠j+1->τ q=j+1->¬τ q=m:=fun j q hj hq ht=>hj (by rw[<-ht,hq]);obtain⟨F,hF,hF2⟩:=h.cat;obtain⟨U,hU,hU2⟩:=h.crw;obtain⟨B6,h6,h62⟩:=h.pop;obtain⟨B7,h7,h72⟩:=h.pan;obtain⟨B8,h8,h82⟩:=h.ses;refine⟨fun e=>h.blk.kept k (off1 0 _ e h.tw),fun e=>owns_kept h.row k (fun g hg=>off1 8 _ e (h.tr g hg)),fun e=>h.add.kept k (off1 1 _ e h.ta),fun e=>h.fgt.kept k (off1 2 _ e h.tf),fun e=>⟨F,hF.kept k (fun q hq=>off1 3 q e (hF2 q hq)),fun q hq=>old 3 q (hF2 q hq)⟩,fun e=>⟨U,hU.kept k (fun q hq=>off1 4 q e (hU2 q hq)),fun q hq=>old 4 q (hU2 q hq)⟩,fun e=>⟨B6,h6.kept k (fun q hq=>off1 5 q e (h62 q hq)),fun q hq=>old 5 q (h62 q hq)⟩,fun e=>⟨B7,h7.kept k (fun q hq=>off1 6 q e (h72 q hq)),fun q hq=>old 6 q (h72 q hq)⟩,fun e=>⟨B8,h8.kept k (fun q hq=>off1 7 q e (h82 q hq)),fun q hq=>old 7 q (h82 q hq)⟩,old 0 _ h.tw,old 1 _ h.ta,old 2 _ h.tf,fun _ g hg=>old 8 _ (h.tr g hg),fun q hq=>?_⟩;unfold tauM at hq;by_cases h1:q<w.heap.size
 ·rw[if_pos h1]at hq;exact⟨(h.low q hq).1,Nat.lt_of_lt_of_le h1 k.size⟩
 ·rw[if_neg h1]at hq;by_cases h2:q<w'.heap.size
  ·exact⟨by omega,h2⟩
  ·rw[if_neg h2]at hq;exact absurd rfl hq
theorem Zds {lo hi m:Nat}{B B':Nat->Prop}(hB:∀q,B q->τ q=m)(hlt:∀q,B q->q<lo)(hn:∀q,B' q->B q\/lo<=q)(hlt':∀q,B' q->q<hi):∀q,B' q->tauM τ lo hi m q=m:=fun q hq=>by
 by_cases h:q<lo
 ·rw[Zat h];rcases hn q hq with h1|h1
  ·exact hB q h1
  ·omega
 ·exact Zkb (by omega) (hlt' q hq)
end
end Go.Proofs.YtnpfaajhgghpgaaGreatDoor
namespace Go.Proofs.YtnpfaajhgghpgaaGreatDoor
open Go.Shelf Go.RowKit Go.Maps
structure CfgOk (c:Cfg):Prop where
 half:1<=c.half/\c.half<=1099511627776
 width:1<=c.width/\c.width<=1099511627776
 span:1<=c.span/\c.span<=1099511627776
 fit:c.span % c.width=0
 gap:0<=c.gap/\c.gap<=1099511627776
 floor:0<=c.floor/\c.floor<=1048576
 crowd:0<=c.crowd/\c.crowd<=1048576
theorem Zbr (n lo hi:Int)(w:World)(h:lo<=n/\n<=hi):Calls Tryz.prog 74 #[.int .i64 n,.int .i64 lo,.int .i64 hi] w fun e w'=>e = .returned (.bool true)/\w=w':=by
 have d1:decide (lo<=n)=true:=decide_eq_true h.1;have d2:decide (n<=hi)=true:=decide_eq_true h.2;go_enter Tryz.func74,Tryz.ntmps74;go_wp2_with fail;go_ret;exact⟨rfl,rfl⟩
def cfgArr (c:Cfg):Array Value:=#[.int .i64 c.half,.int .i64 c.width,.int .i64 c.gap,.int .i64 c.span,.int .i64 c.floor,.int .i64 c.crowd]
theorem Zkc (c:Cfg)(w:World)(h:CfgOk c):Calls Tryz.prog 41 #[cfgA c] w fun e w'=>e = .returned (.bool true)/\Below w.heap.size w w':=by
 obtain⟨w1,hw1⟩:=zG (w.alloc (.cells (cfgArr c) 25));have be1:Blk w1 w.heap.size 25 (cfgArr c):=by rw[<-hw1];exact Blk.new _ _ _
 have HB1:=zA hw1;have c0:w1.cell? ⟨w.heap.size,0,none⟩=some (.int .i64 c.half):=be1.cell 0;have c1:w1.cell? ⟨w.heap.size,1,none⟩=some (.int .i64 c.width):=be1.cell 1;have c2:w1.cell? ⟨w.heap.size,2,none⟩=some (.int .i64 c.gap):=be1.cell 2;have c3:w1.cell? ⟨w.heap.size,3,none⟩=some (.int .i64 c.span):=be1.cell 3;have c4:w1.cell? ⟨w.heap.size,4,none⟩=some (.int .i64 c.floor):=be1.cell 4;have c5:w1.cell? ⟨w.heap.size,5,none⟩=some (.int .i64 c.crowd):=be1.cell 5;have H0:=zh (Zbr c.half 1 1099511627776 w1 h.half);have H1:=zh (Zbr c.width 1 1099511627776 w1 h.width);have H2:=zh (Zbr c.gap 0 1099511627776 w1 h.gap);have H3:=zh (Zbr c.span 1 1099511627776 w1 h.span);have H4:=zh (Zbr c.floor 0 1048576 w1 h.floor);have H5:=zh (Zbr c.crowd 0 1048576 w1 h.crowd);have hs:=h.span;have hw:=h.width;have hfit:(c.span % c.width == 0)=true:=by simp[h.fit]
 obtain⟨s1,s2⟩:=hs;obtain⟨t1,t2⟩:=hw;have hz:(c.width == 0)=false:=by simp;omega
 clear be1 h;unfold cfgA;unfold cfgArr at hw1;go_enter Tryz.func41,Tryz.ntmps41;go_wp2_with fail;refine H0.o.mono ?_;rintro e w2 ⟨rfl,rfl⟩;go_wp2_with fail;refine H1.o.mono ?_;rintro e w2 ⟨rfl,rfl⟩;go_wp2_with fail;refine H3.o.mono ?_;rintro e w2 ⟨rfl,rfl⟩;go_wp2_with fail;refine H2.o.mono ?_;rintro e w2 ⟨rfl,rfl⟩;go_wp2_with fail;refine H4.o.mono ?_;rintro e w2 ⟨rfl,rfl⟩;go_wp2_with fail;refine H5.o.mono ?_;rintro e w2 ⟨rfl,rfl⟩;go_wp2_with fail;go_ret;exact⟨rfl,HB1.o⟩
def wdRaw (c:Cfg)(v:Value)(a:Bool)(e:Ev)(ab fb:Nat)(x1 x2 x3 x4 x5 x6:Option Addr):Array Value:=#[.int .i64 c.half,.int .i64 c.width,.int .i64 c.gap,.int .i64 c.span,.int .i64 c.floor,.int .i64 c.crowd,v,.bool a,.string e.src,.int .i64 e.num,.int .i64 e.tick,.int .i64 e.kind,.string e.person,.string e.item,.int .i64 e.value,.string e.text,.map (some ab),.map (some fb),.pointer x1,.pointer x2,.pointer x3,.pointer x4,.pointer x5,.pointer x6]
structure Fresh (w w':World) (half:Int) (b:Wb) (s1 s2 s3 s4:Nat):Prop where
 cat:∃F,Ct.CatAt w' b.ct F []/\∀q,F q->w.heap.size<=q/\q<s1
 crw:∃U,CrAt w' b.cr (halfP half) U []/\∀q,U q->s1<=q/\q<s2
 pop:∃B,DcAt w' b.dc B 0/\∀q,B q->s2<=q/\q<s3
 pan:∃B,PnAt w' b.pn B 0/\∀q,B q->s3<=q/\q<s4
 ses:∃B,SsAt w' b.ss B 0/\∀q,B q->s4<=q/\q<w'.heap.size
 le:w.heap.size<=s1/\s1<=s2/\s2<=s3/\s3<=s4/\s4<=w'.heap.size
theorem Za8 {w:World}{wb:Nat}{i:Nat}{u:Value}:Kept (fun q=>q=wb) w (w.setCell ⟨wb,i,none⟩ u):=(Kept.refl (fun q=>q=wb) w).setCell (p:=⟨wb,i,none⟩) (Or.inl rfl) u
def ClearR (w:World)(wb:Nat)(c:Cfg)(v:Value)(a:Bool)(l:Ev)(ab fb:Nat)(w':World):Prop:=∃b s1 s2 s3 s4,b.ab=ab/\b.fb=fb/\Blk w' wb 75 (wdCells c v a l b)/\Fresh w w' c.half b s1 s2 s3 s4/\Kept (fun q=>q=wb) w w'
theorem Zm1 (w:World)(wb:Nat)(c:Cfg)(v:Value)(a:Bool)(l:Ev)(ab fb:Nat)(x1 x2 x3 x4 x5 x6:Option Addr)(h:Blk w wb 75 (wdRaw c v a l ab fb x1 x2 x3 x4 x5 x6)) :
  Calls Tryz.prog 42 #[.pointer (some ⟨wb,0,none⟩)] w fun e w'=>e = .returned (.tuple #[])/\ClearR w wb c v a l ab fb w':=by
 have HB:=zh h;have hlt:=h.lt;have HN0:=zh (Ct.new_any w);clear h;go_enter Tryz.func42,Tryz.ntmps42;go_wp2_with fail;refine HN0.o.mono ?_;rintro e w1 ⟨ct,F,rfl,hF,hFl,hb1⟩;have HBw1:Hid (Blk w1 wb 75 (wdRaw c v a l ab fb x1 x2 x3 x4 x5 x6)):=zX HB hb1;have HF0:=zh hF;have HL0:=zh hFl;have HX0:=zh hb1;have g:w1.cell? ⟨wb,18,none⟩=some (.pointer x1):=HBw1.o.cell 18;have f:=HBw1.o.frozen 18;clear hF hFl hb1;go_upto_region 1 with fail;obtain⟨w2,hw⟩:=zG (w1.setCell ⟨wb,18,none⟩ (.pointer (some ⟨ct,0,none⟩)));rw[hw];have HBw2:Hid (Blk w2 wb 75 (wdRaw c v a l ab fb (some ⟨ct,0,none⟩) x2 x3 x4 x5 x6)):=zh (by rw[<-hw];exact HBw1.o.set_ 18 _);have HK0:Hid (Kept (fun q=>q=wb) w1 w2):=zh (by rw[<-hw];exact Za8);clear hw g f;have cc:w2.cell? ⟨wb,0,none⟩=some (.int .i64 c.half):=HBw2.o.cell 0;have HN:=zh (new_any c.half w2);go_wp2_with fail;refine HN.o.mono ?_;rintro e w3 ⟨cr,U,rfl,hF,hFl,hb3⟩;clear HN cc;have HBw3:Hid (Blk w3 wb 75 (wdRaw c v a l ab fb (some ⟨ct,0,none⟩) x2 x3 x4 x5 x6)):=zX HBw2 hb3;have HF1:=zh hF;have HL1:=zh hFl;have HX1:=zh hb3;have g:w3.cell? ⟨wb,19,none⟩=some (.pointer x2):=HBw3.o.cell 19;have f:=HBw3.o.frozen 19;clear hF hFl hb3;go_upto_region 2 with fail;obtain⟨w4,hw⟩:=zG (w3.setCell ⟨wb,19,none⟩ (.pointer (some ⟨cr,0,none⟩)));rw[hw];have HBw4:Hid (Blk w4 wb 75 (wdRaw c v a l ab fb (some ⟨ct,0,none⟩) (some ⟨cr,0,none⟩) x3 x4 x5 x6)):=zh (by rw[<-hw];exact HBw3.o.set_ 19 _);have HK1:Hid (Kept (fun q=>q=wb) w3 w4):=zh (by rw[<-hw];exact Za8);clear hw g f;have cc:w4.cell? ⟨wb,0,none⟩=some (.int .i64 c.half):=HBw4.o.cell 0;have HN:=zh (Zo7 c.half w4);go_wp2_with fail;refine HN.o.mono ?_;rintro e w5 ⟨dc,B6,rfl,hF,hFl,hb5⟩;clear HN cc;have HBw5:Hid (Blk w5 wb 75 (wdRaw c v a l ab fb (some ⟨ct,0,none⟩) (some ⟨cr,0,none⟩) x3 x4 x5 x6)):=zX HBw4 hb5;have HF2:=zh hF;have HL2:=zh hFl;have HX2:=zh hb5;have g:w5.cell? ⟨wb,20,none⟩=some (.pointer x3):=HBw5.o.cell 20;have f:=HBw5.o.frozen 20;clear hF hFl hb5;go_upto_region 3 with fail;obtain⟨w6,hw⟩:=zG (w5.setCell ⟨wb,20,none⟩ (.pointer (some ⟨dc,0,none⟩)));rw[hw];have HBw6:Hid (Blk w6 wb 75 (wdRaw c v a l ab fb (some ⟨ct,0,none⟩) (some ⟨cr,0,none⟩) (some ⟨dc,0,none⟩) x4 x5 x6)):=zh (by rw[<-hw];exact HBw5.o.set_ 20 _);have HK2:Hid (Kept (fun q=>q=wb) w5 w6):=zh (by rw[<-hw];exact Za8);clear hw g f;have cc:w6.cell? ⟨wb,1,none⟩=some (.int .i64 c.width):=HBw6.o.cell 1;have HN:=zh (Zpc c.width w6);go_wp2_with fail;refine HN.o.mono ?_;rintro e w7 ⟨pn,B7,rfl,hF,hFl,hb7⟩;clear HN cc;have HBw7:Hid (Blk w7 wb 75 (wdRaw c v a l ab fb (some ⟨ct,0,none⟩) (some ⟨cr,0,none⟩) (some ⟨dc,0,none⟩) x4 x5 x6)):=zX HBw6 hb7;have HF3:=zh hF;have HL3:=zh hFl;have HX3:=zh hb7;have g:w7.cell? ⟨wb,21,none⟩=some (.pointer x4):=HBw7.o.cell 21;have f:=HBw7.o.frozen 21;clear hF hFl hb7;go_upto_region 4 with fail;obtain⟨w8,hw⟩:=zG (w7.setCell ⟨wb,21,none⟩ (.pointer (some ⟨pn,0,none⟩)));rw[hw];have HBw8:Hid (Blk w8 wb 75 (wdRaw c v a l ab fb (some ⟨ct,0,none⟩) (some ⟨cr,0,none⟩) (some ⟨dc,0,none⟩) (some ⟨pn,0,none⟩) x5 x6)):=zh (by rw[<-hw];exact HBw7.o.set_ 21 _);have HK3:Hid (Kept (fun q=>q=wb) w7 w8):=zh (by rw[<-hw];exact Za8);clear hw g f;have cc:w8.cell? ⟨wb,2,none⟩=some (.int .i64 c.gap):=HBw8.o.cell 2;have HN:=zh (Zo9 c.gap w8);go_wp2_with fail;refine HN.o.mono ?_;rintro e w9 ⟨ss,B8,rfl,hF,hFl,hb9⟩;clear HN cc;have HBw9:Hid (Blk w9 wb 75 (wdRaw c v a l ab fb (some ⟨ct,0,none⟩) (some ⟨cr,0,none⟩) (some ⟨dc,0,none⟩) (some ⟨pn,0,none⟩) x5 x6)):=zX HBw8 hb9;have HF4:=zh hF;have HL4:=zh hFl;have HX4:=zh hb9;have g:w9.cell? ⟨wb,22,none⟩=some (.pointer x5):=HBw9.o.cell 22;have f:=HBw9.o.frozen 22;clear hF hFl hb9;go_upto_region 5 with fail;obtain⟨w10,hw⟩:=zG (w9.setCell ⟨wb,22,none⟩ (.pointer (some ⟨ss,0,none⟩)));rw[hw];have HBw10:Hid (Blk w10 wb 75 (wdRaw c v a l ab fb (some ⟨ct,0,none⟩) (some ⟨cr,0,none⟩) (some ⟨dc,0,none⟩) (some ⟨pn,0,none⟩) (some ⟨ss,0,none⟩) x6)):=zh (by rw[<-hw];exact HBw9.o.set_ 22 _);have HK4:Hid (Kept (fun q=>q=wb) w9 w10):=zh (by rw[<-hw];exact Za8);clear hw g f;have g:w10.cell? ⟨wb,23,none⟩=some (.pointer x6):=HBw10.o.cell 23;have f:=HBw10.o.frozen 23;go_wp2_with fail;go_end0;obtain⟨wz,hwz⟩:=zG (w10.setCell ⟨wb,23,none⟩ (.pointer none));rw[hwz];have kz:Kept (fun q=>q=wb) w10 wz:=by rw[<-hwz];exact Za8
 have bz:Blk wz wb 75 (wdRaw c v a l ab fb (some ⟨ct,0,none⟩) (some ⟨cr,0,none⟩) (some ⟨dc,0,none⟩) (some ⟨pn,0,none⟩) (some ⟨ss,0,none⟩) none):=by rw[<-hwz];exact HBw10.o.set_ 23 _
 have k9:Kept (fun q=>q=wb) w9 wz:=HK4.o.trans kz;have k8:Kept (fun q=>q=wb) w8 wz:=(below_kept HX4.o (zr _)).trans k9;have k7:Kept (fun q=>q=wb) w7 wz:=HK3.o.trans k8;have k6:Kept (fun q=>q=wb) w6 wz:=(below_kept HX3.o (zr _)).trans k7;have k5:Kept (fun q=>q=wb) w5 wz:=HK2.o.trans k6;have k4:Kept (fun q=>q=wb) w4 wz:=(below_kept HX2.o (zr _)).trans k5;have k3:Kept (fun q=>q=wb) w3 wz:=HK1.o.trans k4;have k2:Kept (fun q=>q=wb) w2 wz:=(below_kept HX1.o (zr _)).trans k3;have k1:Kept (fun q=>q=wb) w1 wz:=HK0.o.trans k2;have k0:Kept (fun q=>q=wb) w wz:=(below_kept HX0.o (zr _)).trans k1;have z0:=HX0.o.size;have z1:=HK0.o.size;have z2:=HX1.o.size;have z3:=HK1.o.size;have z4:=HX2.o.size;have z5:=HK2.o.size;have z6:=HX3.o.size;have z7:=HK3.o.size;have z8:=HX4.o.size;have z9:=k9.size;refine⟨rfl,⟨ab,fb,ct,cr,dc,pn,ss⟩,w1.heap.size,w3.heap.size,w5.heap.size,w7.heap.size,rfl,rfl,bz,⟨⟨F,?_,fun q hq=>⟨HL0.o q hq,HF0.o.lt q hq⟩⟩,⟨U,?_,fun q hq=>⟨?_,HF1.o.lt q hq⟩⟩,⟨B6,?_,fun q hq=>⟨?_,HF2.o.lt q hq⟩⟩,⟨B7,?_,fun q hq=>⟨?_,HF3.o.lt q hq⟩⟩,⟨B8,?_,fun q hq=>⟨?_,?_⟩⟩,by omega⟩,k0⟩
 ·exact HF0.o.kept k1 (fun q hq e=>by have:=HL0.o q hq;omega)
 ·exact HF1.o.kept k3 (fun q hq e=>by have:=HL1.o q hq;omega)
 ·have:=HL1.o q hq;omega
 ·exact HF2.o.kept k5 (fun q hq e=>by have:=HL2.o q hq;omega)
 ·have:=HL2.o q hq;omega
 ·exact HF3.o.kept k7 (fun q hq e=>by have:=HL3.o q hq;omega)
 ·have:=HL3.o q hq;omega
 ·exact HF4.o.kept k9 (fun q hq e=>by have:=HL4.o q hq;omega)
 ·have:=HL4.o q hq;omega
 ·have:=HF4.o.lt q hq;omega
end Go.Proofs.YtnpfaajhgghpgaaGreatDoor
namespace Go.Proofs.YtnpfaajhgghpgaaGreatDoor
open Go.Shelf Go.RowKit Go.Maps Go.Lib
theorem Zi3 (s:ByteArray)(w:World)(hs:s.size<4294967281)(hg:GlobAt w) :
  Calls Tryz.prog 81 #[.string s] w fun e w'=>∃A c,e = .returned (.slice A (evTags s).length c)/\RowIn w' w'.heap.size 1 A (evTags s).length ((evTags s).map .string)/\(A=none->c=0)/\(∀ad,A=some ad->w.heap.size<=ad.block)/\Below w.heap.size w w':=by
 have HC:=zh (Zgc s w hs hg);go_enter Tryz.func81,Tryz.ntmps81;go_wp2_with fail;refine HC.o.mono ?_;rintro e w1 ⟨rfl,q,rfl⟩;have hle:=Ze5 s;by_cases hr:restP s=⟨#[]⟩
 ·have hb:(restP s).toList.isEmpty=true:=by rw[Zcj];simp[hr]
  have HE:Hid (evTags s = []):=zh (by unfold evTags;rw[if_pos hr]);clear hr HC;go_wp2_with fail;go_ret;rw[HE.o];exact⟨none,0,rfl,RowIn.nil _ _ _ _,fun _=>rfl,fun _ h=>(by cases h),⟨rfl,rfl,rfl,zr _,fun _ _=>rfl⟩⟩
 ·have hb:(restP s).toList.isEmpty=false:=by rw[Zcj];simp[hr]
  have HE:Hid (evTags s=parts (restP s)):=zh (by unfold evTags;rw[if_neg hr]);have HS:=zh (Zhk (restP s) (w.drewN q) (by omega) (hg.drewN q));clear hr HC;go_wp2_with fail;refine HS.o.mono ?_;rintro e w2 ⟨rfl,hw2⟩;clear HS;go_wp2_with fail;go_ret;rw[HE.o];subst hw2;refine⟨_,_,rfl,⟨by simp,Or.inr ⟨_,0,rfl,by simp,fun j u hu=>?_⟩⟩,fun h=>(by cases h),fun ad had=>(by injection had with had;rw[<-had];exact zr _),?_⟩
  rotate_left
  ·have h1:Below (w.drewN q).heap.size (w.drewN q) ((w.drewN q).alloc (.cells ((parts (restP s)).map Value.string).toArray 9)):=(Below.refl _ _).alloc (zr _) _;exact⟨h1.os,h1.tape,h1.output,h1.size,h1.block⟩
  rw[Nat.zero_add];have:=(Blk.new (w.drewN q) 9 ((parts (restP s)).map Value.string).toArray).cell j;rw[List.getElem?_toArray,hu]at this;exact this
section
variable {w w' : World} {wb base n n' : Nat} {c : Cfg} {v v' : Value} {a a' : Bool} {last last' : Ev} {b : Wb} {τ : Nat -> Nat} {es ad : List Ev} {S : ByteArray -> Bool} {th : List Ev} {rs : List Rw}
theorem WdG.base_le (h:WdG w wb base c v a last b τ n es ad S th rs):base<=w.heap.size:=by
 have:=h.low wb (by rw[h.tw];omega);omega
theorem WdG.new4 (h:WdG w wb base c v a last b τ n es ad S th rs){F F':Nat->Prop}{th':List Ev}(hF:∀q,F q->τ q=4)(hlt:∀q,F q->q<w.heap.size)(h':Ct.CatAt w' b.ct F' th')(hn:∀q,F' q->F q\/w.heap.size<=q)(k:Kept F w w'):WdG w' wb base c v a last b (tauM τ w.heap.size w'.heap.size 4) n es ad S th' rs:=by
 have R:=h.rest (m:=4) (k.mono (fun q _ hq=>hF q hq)) (by omega) h.base_le;exact⟨R.blk (by omega),R.row (by omega),R.add (by omega),R.fgt (by omega),⟨F',h',Zds hF hlt hn h'.lt⟩,R.crw (by omega),R.pop (by omega),R.pan (by omega),R.ses (by omega),R.tw,R.ta,R.tf,R.tr (by omega),R.low⟩
theorem WdG.new5 (h:WdG w wb base c v a last b τ n es ad S th rs){F F':Nat->Prop}{rs':List Rw}(hF:∀q,F q->τ q=5)(hlt:∀q,F q->q<w.heap.size)(h':CrAt w' b.cr (halfP c.half) F' rs')(hn:∀q,F' q->F q\/w.heap.size<=q)(k:Kept F w w'):WdG w' wb base c v a last b (tauM τ w.heap.size w'.heap.size 5) n es ad S th rs':=by
 have R:=h.rest (m:=5) (k.mono (fun q _ hq=>hF q hq)) (by omega) h.base_le;exact⟨R.blk (by omega),R.row (by omega),R.add (by omega),R.fgt (by omega),R.cat (by omega),⟨F',h',Zds hF hlt hn h'.lt⟩,R.pop (by omega),R.pan (by omega),R.ses (by omega),R.tw,R.ta,R.tf,R.tr (by omega),R.low⟩
theorem WdG.new6 (h:WdG w wb base c v a last b τ n es ad S th rs)(hn':n<=n'){F F':Nat->Prop}(hF:∀q,F q->τ q=6)(hlt:∀q,F q->q<w.heap.size)(h':DcAt w' b.dc F' n')(hn:∀q,F' q->F q\/w.heap.size<=q)(k:Kept F w w'):WdG w' wb base c v a last b (tauM τ w.heap.size w'.heap.size 6) n' es ad S th rs:=by
 have R:=(h.mono hn').rest (m:=6) (k.mono (fun q _ hq=>hF q hq)) (by omega) h.base_le;exact⟨R.blk (by omega),R.row (by omega),R.add (by omega),R.fgt (by omega),R.cat (by omega),R.crw (by omega),⟨F',h',Zds hF hlt hn h'.lt⟩,R.pan (by omega),R.ses (by omega),R.tw,R.ta,R.tf,R.tr (by omega),R.low⟩
theorem WdG.new7 (h:WdG w wb base c v a last b τ n es ad S th rs)(hn':n<=n'){F F':Nat->Prop}(hF:∀q,F q->τ q=7)(hlt:∀q,F q->q<w.heap.size)(h':PnAt w' b.pn F' n')(hn:∀q,F' q->F q\/w.heap.size<=q)(k:Kept F w w'):WdG w' wb base c v a last b (tauM τ w.heap.size w'.heap.size 7) n' es ad S th rs:=by
 have R:=(h.mono hn').rest (m:=7) (k.mono (fun q _ hq=>hF q hq)) (by omega) h.base_le;exact⟨R.blk (by omega),R.row (by omega),R.add (by omega),R.fgt (by omega),R.cat (by omega),R.crw (by omega),R.pop (by omega),⟨F',h',Zds hF hlt hn h'.lt⟩,R.ses (by omega),R.tw,R.ta,R.tf,R.tr (by omega),R.low⟩
theorem WdG.new8 (h:WdG w wb base c v a last b τ n es ad S th rs)(hn':n<=n'){F F':Nat->Prop}(hF:∀q,F q->τ q=8)(hlt:∀q,F q->q<w.heap.size)(h':SsAt w' b.ss F' n')(hn:∀q,F' q->F q\/w.heap.size<=q)(k:Kept F w w'):WdG w' wb base c v a last b (tauM τ w.heap.size w'.heap.size 8) n' es ad S th rs:=by
 have R:=(h.mono hn').rest (m:=8) (k.mono (fun q _ hq=>hF q hq)) (by omega) h.base_le;exact⟨R.blk (by omega),R.row (by omega),R.add (by omega),R.fgt (by omega),R.cat (by omega),R.crw (by omega),R.pop (by omega),R.pan (by omega),⟨F',h',Zds hF hlt hn h'.lt⟩,R.tw,R.ta,R.tf,R.tr (by omega),R.low⟩
end
def WdNew (w:World)(c:Cfg)(e:Ending)(w':World):Prop:=∃wb b τ,e = .returned (.tuple #[.pointer (some ⟨wb,0,none⟩),.int .i64 0])/\WdG w' wb w.heap.size c (.slice none 0 0) false ev0 b τ 0 [] [] (fun _=>false) [] []/\Below w.heap.size w w'
theorem Zi4 {w5 w6:World}{wb ab fb s1 s2 s3 s4 base:Nat}{c:Cfg}{b:Wb}(hf:Fresh w5 w6 c.half b s1 s2 s3 s4)(hab:b.ab=ab)(hfb:b.fb=fb)(hblk:Blk w6 wb 75 (wdCells c (.slice none 0 0) false ev0 b))(ha:IsI okBool w6 ab 0 (fun _ _=>none))(hm:MapIs Tryz.prog 9 okBool w6 fb 0 (fun _=>none))(h1:base<=ab)(h2:ab<fb)(h3:fb<wb)(h4:wb<w5.heap.size) :
  ∃τ,WdG w6 wb base c (.slice none 0 0) false ev0 b τ 0 [] [] (fun _=>false) [] []:=by
 have hl:=hf.le;refine⟨fun q=>if q<w5.heap.size then (if q=wb then 1 else if q=ab then 2 else if q=fb then 3 else 0) else if q<s1 then 4 else if q<s2 then 5 else if q<s3 then 6 else if q<s4 then 7 else if q<w6.heap.size then 8 else 0,?_⟩;obtain⟨F,hF,hF2⟩:=hf.cat;obtain⟨U,hU,hU2⟩:=hf.crw;obtain⟨B6,h6,h62⟩:=hf.pop;obtain⟨B7,h7,h72⟩:=hf.pan;obtain⟨B8,h8,h82⟩:=hf.ses;refine⟨hblk,own_nil _ _ _ _,?_,?_,⟨F,hF,fun q hq=>?_⟩,⟨U,hU,fun q hq=>?_⟩,⟨B6,h6,fun q hq=>?_⟩,⟨B7,h7,fun q hq=>?_⟩,⟨B8,h8,fun q hq=>?_⟩,?_,?_,?_,fun g hg=>(by cases hg),fun q hq=>?_⟩
 ·rw[hab];exact ha.congr (fun _ _=>rfl)
 ·rw[hfb];exact hm.congr (fun kl=>by cases kl <;> rfl)
 ·have:=hF2 q hq;rw[if_neg (by omega),if_pos (by omega)]
 ·have:=hU2 q hq;rw[if_neg (by omega),if_neg (by omega),if_pos (by omega)]
 ·have:=h62 q hq;rw[if_neg (by omega),if_neg (by omega),if_neg (by omega),if_pos (by omega)]
 ·have:=h72 q hq;rw[if_neg (by omega),if_neg (by omega),if_neg (by omega),if_neg (by omega),if_pos (by omega)]
 ·have:=h82 q hq;rw[if_neg (by omega),if_neg (by omega),if_neg (by omega),if_neg (by omega),if_neg (by omega),if_pos (by omega)]
 ·rw[if_pos h4,if_pos rfl]
 ·rw[hab];rw[if_pos (by omega),if_neg (by omega),if_pos rfl]
 ·rw[hfb];rw[if_pos (by omega),if_neg (by omega),if_neg (by omega),if_pos rfl]
 ·split at hq
  ·rename_i hlt
   repeat (split at hq;· omega)
   exact absurd rfl hq
  ·refine⟨by omega,?_⟩
   repeat (split at hq;· omega)
   exact absurd rfl hq
theorem Zpj (c:Cfg)(w:World)(h:CfgOk c):Calls Tryz.prog 13 #[cfgA c] w (WdNew w c):=by
 have hmm:=@run_makeMap Tryz.prog;obtain⟨w1,hw1⟩:=zG (w.alloc (.cells (cfgArr c) 25));have be1:Hid (Blk w1 w.heap.size 25 (cfgArr c)):=zB hw1;have HB1:=zA hw1;obtain⟨c0,c1,c2,c3,c4,c5⟩:=zC6 be1.o;have HM:=zh (Zkc c w1 h);unfold cfgA at HM ⊢;unfold cfgArr at hw1;clear h;go_enter Tryz.func13,Tryz.ntmps13;go_wp2_with fail;refine HM.o.mono ?_;rintro e w2 ⟨rfl,hb2⟩;have HB2:=zT HB1 hb2;have be2:Blk w2 w.heap.size 25 (cfgArr c):=(hb2.block _ be1.o.lt).trans be1.o;have d0:w2.cell? ⟨w.heap.size,0,none⟩=some (.int .i64 c.half):=be2.cell 0;have d1:w2.cell? ⟨w.heap.size,1,none⟩=some (.int .i64 c.width):=be2.cell 1;have d2:w2.cell? ⟨w.heap.size,2,none⟩=some (.int .i64 c.gap):=be2.cell 2;have d3:w2.cell? ⟨w.heap.size,3,none⟩=some (.int .i64 c.span):=be2.cell 3;have d4:w2.cell? ⟨w.heap.size,4,none⟩=some (.int .i64 c.floor):=be2.cell 4;have d5:w2.cell? ⟨w.heap.size,5,none⟩=some (.int .i64 c.crowd):=be2.cell 5;obtain⟨w3,hw3⟩:=zG (w2.alloc (.map #[] 0));obtain⟨w4,hw4⟩:=zG (w3.alloc (.map #[] 0));have HA:Hid (IsI okBool w3 w2.heap.size 0 (fun _ _=>none)):=zh (by rw[<-hw3];exact IsI.made _ _);have HF:Hid (MapIs Tryz.prog 9 okBool w4 w3.heap.size 0 (fun _=>none)):=zh (by rw[<-hw4];exact MapIs.made _ _ _ _);have Z3:Hid (w3.heap.size=w2.heap.size+1):=zh (by rw[<-hw3];simp);have Z4:Hid (w4.heap.size=w3.heap.size+1):=zh (by rw[<-hw4];simp);have HB3:=zA hw3;have HB4:=zA hw4;clear be2 hb2 HM c0 c1 c2 c3 c4 c5 hw1;go_wp2_with fail;obtain⟨w5,hw5⟩:=zG (w4.alloc (.cells (wdRaw c (.slice none 0 0) false ev0 w2.heap.size w3.heap.size none none none none none none) 75));have HC:=zh (Zm1 w5 w4.heap.size c (.slice none 0 0) false ev0 w2.heap.size w3.heap.size none none none none none none (by rw[<-hw5];exact Blk.new _ _ _));have Z5:Hid (w5.heap.size=w4.heap.size+1):=zh (by rw[<-hw5];simp);have HB5:=zA hw5;unfold wdRaw ev0 at hw5;dsimp only at hw5;rw[hw5];refine HC.o.mono ?_;rintro e w6 ⟨rfl,b,s1,s2,s3,s4,hab,hfb,hbk,hfr,hk⟩;have H1:=zh hab;have H2:=zh hfb;have H3:=zh hbk;have H4:=zh hfr;have H5:=zh hk;clear hab hfb hbk hfr hk HC hw5 hw4 hw3 d0 d1 d2 d3 d4 d5;go_wp2_with fail;go_ret2;have z3:=Z3.o;have z4:=Z4.o;have z5:=Z5.o;have zz:=HB2.o.size;have k45:Kept (fun _=>False) w4 w5:=below_kept HB5.o (zr _);have k35:Kept (fun _=>False) w3 w5:=(below_kept HB4.o (zr _)).trans k45;have k36:Kept (fun q=>q=w4.heap.size) w3 w6:=(k35.mono (fun _ _ h=>h.elim)).trans H5.o;have k46:Kept (fun q=>q=w4.heap.size) w4 w6:=(k45.mono (fun _ _ h=>h.elim)).trans H5.o;obtain⟨τ,hτ⟩:=Zi4 (base:=w.heap.size) H4.o H1.o H2.o H3.o (HA.o.kept k36 (by omega)) (HF.o.kept k46 (by omega)) zz (by omega) (by omega) (by omega);refine⟨w4.heap.size,b,τ,rfl,hτ,?_⟩;have hb5:Below w.heap.size w w5:=HB2.o.trans ((HB3.o.trans ((HB4.o.trans (HB5.o.mono (by omega))).mono (by omega))).mono zz);exact hb5.trans (H5.o.toBelow (fun i hi=>by rw[hi];omega) (by omega))
end Go.Proofs.YtnpfaajhgghpgaaGreatDoor

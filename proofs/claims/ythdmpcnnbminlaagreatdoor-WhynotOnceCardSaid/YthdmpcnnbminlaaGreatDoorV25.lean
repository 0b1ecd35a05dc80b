/- A part of the joined base. -/
import Derived.Test.YthdmpcnnbminlaaGreatDoorV24
set_option linter.unusedVariables false
set_option maxHeartbeats 8000000
set_option maxRecDepth 100000
namespace Go.Proofs.YthdmpcnnbminlaaGreatDoor
open Go.Shelf Go.RowKit Go.Maps
theorem Zjb (w:World) (wb base:Nat) (c:Cfg) (v:Value) (a:Bool) (last:Ev) (b:Wb) (τ:Nat→Nat) (n:Nat) (es' ad:List Ev) (S:ByteArray→Bool) (es:List Ev) (e:Ev) (h:WdG w wb base c v a last b τ n es' ad S (thgs es) (rowsW es)) (hnx:NextE es e) (hok:EvOk e) (hall:∀x∈es,EvOk x) (hlen:es.length≤10000) (hn:n≤800000) (hg:GlobAt w) (hk:e.kind<11) :
  Calls Tryz.prog 106 #[.pointer (some ⟨wb,0,none⟩),evA e] w (CountR τ w wb base c v a last b n es' ad S (es++[e])):=by
 obtain⟨w1,hw1⟩:∃w1,w.alloc (.cells (evArr e) 31)=w1:=⟨_,rfl⟩
 have HE1:Hid (Blk w1 w.heap.size 31 (evArr e)):=zh (by rw[←hw1];exact Blk.new _ _ _)
 have HB1:Hid (Below w.heap.size w w1):=zh (by rw[←hw1];exact (Below.refl _ _).alloc (zr _) _)
 have HI1:Hid (WdG w1 wb base c v a last b τ n es' ad S (thgs es) (rowsW es)):=zh (h.below HB1.o)
 have HG1:Hid (GlobAt w1):=zh (hg.keep HB1.o (zr _))
 have HSC:Hid (∀W,Below w1.heap.size w1 W→CnS W wb 18 w.heap.size (.pointer (some ⟨b.ct,0,none⟩)) e):=zh (fun W hb=>Zby ((hb.block _ HI1.o.blk.lt).trans HI1.o.blk) rfl ((hb.block _ HE1.o.lt).trans HE1.o))
 obtain⟨F,hF,hFt⟩:=HI1.o.cat
 have HF:=zh hF
 have htl:=Zdo es
 have HFEW:=zh (Zp5 hall hok)
 have HOK:=zh hok
 have HTAGS:=zh (Zja es e)
 have hitl:e.item.size≤1000000:=hok.sh.2.2.1
 obtain⟨x,hx⟩:∃x,Ct.atP (thgs es) e.item e.tick=x:=⟨_,rfl⟩
 obtain⟨X,hX⟩:∃X,x.getD Ct.it0=X:=⟨_,rfl⟩
 obtain⟨ok,hokx⟩:∃ok,x.isSome=ok:=⟨_,rfl⟩
 rw[hx,hX,hokx]at HTAGS
 rw[hx,hX]at HFEW
 have HAT:Hid (∀W,Below w1.heap.size w1 W→Calls Tryz.prog 32 #[.pointer (some ⟨b.ct,0,none⟩),.string e.item,.int .i64 e.tick] W fun e w'=>e = .returned (.tuple #[.agg #[.string X.name,.string X.maker,.string X.tags,.int .i64 X.stock,.int .i64 X.price,.int .i64 X.born,.bool X.listed],.bool ok])∧Below W.heap.size W w'):=zh (fun W hb=>by
  have:=Ct.Zj9 b.ct F (thgs es) e.item e.tick W (HF.o.below hb) hitl (by omega)
  unfold Ct.toldP Ct.itA at this
  rw[hx,hX,hokx]at this
  exact this)
 have HRW:Hid (rowsW (es++[e])=rowsW es++[⟨e,tagsP (tagsOf es e)⟩]):=zh (by rw[Zb9];unfold rwStep;rw[if_pos hk])
 have HTH:Hid (thgs (es++[e])=thgs es):=zh (Zib (by unfold isCat;exact decide_eq_false (by omega)))
 have HTK:Hid (takesC (rowsW es) e=true):=zh (Ziu hnx hok.1 hk)
 have HRL:Hid ((rowsW es).length≤10000):=zh (Nat.le_trans (Zcs es) hlen)
 have e3:w1.cell? ⟨w.heap.size,3,none⟩=some (.int .i64 e.kind):=HE1.o.cell 3
 have z11:(e.kind == 11)=false:=by simp;omega
 have z12:(e.kind == 12)=false:=by simp;omega
 have z13:(e.kind == 13)=false:=by simp;omega
 have z14:(e.kind == 14)=false:=by simp;omega
 have HEB:Hid (τ w.heap.size=0):=zh (by
  by_cases hz:τ w.heap.size=0
  ·exact hz
  ·have:=(h.low _ hz).2;omega)
 clear h hF hFt hnx hok hall hlen hg hk htl hx hX hokx hitl
 unfold evA
 unfold evArr at hw1
 go_enter Tryz.func106,Tryz.ntmps106
 go_upto_region 8 with fail
 go_cut [5,6] (fun v5 v6 wx=>Hid (AtBox w1 v5 X wx)∧v6 = .bool ok)
 case first=>
  refine Zgw (fun W=>Below w1.heap.size w1 W) (.take 0 (.take 1 (.take 2 (.take 3 (.take 4 (.take 5 (.take 6 (.take 7 (.fork 8 (.take 9 (.take 10 (.take 11 (.turn 12 (.turn 13 (.take 14 .done)))))) 12 (.turn 8 (.take 9 (.take 10 (.take 11 (.turn 13 (.take 14 .done))))))))))))))) (by kernel_rfl) (by kernel_rfl) (below_drew (Below.refl _ _)) ?_
  simp only[planTL,List.getElem?_cons_zero,List.getElem?_cons_succ]
  obtain⟨wd,hwd⟩:∃wd,w1.drew=wd:=⟨_,rfl⟩
  have HBD:Hid (Below w1.heap.size w1 wd):=zh (by rw[←hwd];exact below_drew (Below.refl _ _))
  rw[hwd]
  clear hwd
  repeat (first|(refine Zal _ (by rfl) (fun W hW=>by (obtain⟨x8,x0,x1,x2,x3,x4,x5,x6,x7⟩:=HSC.o W hW;go_simp;try with_reducible rfl)) ?_;simp only[Act.put,xq1,xq2,xq3])|(refine planT_off (by rfl) ?_;simp only[Act.put,xq1,xq2,xq3]))
  refine Zcc ?_ ?_
  case refine_1=>
   have HC:=zh (HAT.o wd HBD.o)
   go_wp2_with fail
   refine HC.o.mono ?_
   rintro e' w2 ⟨rfl,hb2⟩
   have HB2:Hid (Below w1.heap.size w1 w2):=zh (HBD.o.trans (hb2.mono HBD.o.size))
   clear hb2 HC
   go_wp2_with fail
   refine⟨HB2.o,?_⟩
   repeat (first|(refine Zal _ (by rfl) (fun W hW=>by (obtain⟨x8,x0,x1,x2,x3,x4,x5,x6,x7⟩:=HSC.o W hW;go_simp;try with_reducible rfl)) ?_;simp only[Act.put,xq1,xq2,xq3])|(refine planT_off (by rfl) ?_;simp only[Act.put,xq1,xq2,xq3]))
   refine Zap ?_
   go_wp2_with fail
   obtain⟨w3,hw3⟩:∃w3,w2.alloc (.cells #[.string ⟨#[]⟩,.string ⟨#[]⟩,.string ⟨#[]⟩,.int .i64 0,.int .i64 0,.int .i64 0,.bool false] 36)=w3:=⟨_,rfl⟩
   rw[hw3]
   have HB3:Hid (Below w1.heap.size w1 w3):=zh (by rw[←hw3];exact HB2.o.alloc HB2.o.size _)
   have HX3:Hid (Blk w3 w2.heap.size 36 #[.string ⟨#[]⟩,.string ⟨#[]⟩,.string ⟨#[]⟩,.int .i64 0,.int .i64 0,.int .i64 0,.bool false]):=zh (by rw[←hw3];exact Blk.new _ _ _)
   have hz2:=HB2.o.size
   clear hw3
   refine⟨HB3.o,?_⟩
   refine Zap ?_
   refine Zad w3 rfl 36 _ _ rfl 0 #[.string X.name,.string X.maker,.string X.tags,.int .i64 X.stock,.int .i64 X.price,.int .i64 X.born,.bool X.listed] rfl rfl HX3.o (by simp) Znn (by simp[Value.oneCell']) ?_
   intro w4 hb4 hk4 hs4
   have HX4:Hid (Blk w4 w2.heap.size 36 #[.string X.name,.string X.maker,.string X.tags,.int .i64 X.stock,.int .i64 X.price,.int .i64 X.born,.bool X.listed]):=zh hb4
   have HB4:Hid (Below w1.heap.size w1 w4):=zh (HB3.o.trans (hk4.toBelow (fun i hi=>by rw[hi];exact hz2) HB3.o.size))
   clear hb4 hk4 hs4
   go_wp2_with fail
   refine⟨HB4.o,?_⟩
   repeat (first|(refine Zal _ (by rfl) (fun W hW=>by (obtain⟨x8,x0,x1,x2,x3,x4,x5,x6,x7⟩:=HSC.o W hW;go_simp;try with_reducible rfl)) ?_;simp only[Act.put,xq1,xq2,xq3])|(refine planT_off (by rfl) ?_;simp only[Act.put,xq1,xq2,xq3]))
   refine Zbf ?_
   go_wp2_with fail
   go_meet
   exact⟨zh ⟨_,rfl,HX4.o,HB4.o⟩,rfl⟩
  case refine_2=>
   go_wp2_with fail
   obtain⟨w3,hw3⟩:∃w3,wd.alloc (.cells #[.string ⟨#[]⟩,.string ⟨#[]⟩,.string ⟨#[]⟩,.int .i64 0,.int .i64 0,.int .i64 0,.bool false] 36)=w3:=⟨_,rfl⟩
   rw[hw3]
   have HB3:Hid (Below w1.heap.size w1 w3):=zh (by rw[←hw3];exact HBD.o.alloc HBD.o.size _)
   have HX3:Hid (Blk w3 wd.heap.size 36 #[.string ⟨#[]⟩,.string ⟨#[]⟩,.string ⟨#[]⟩,.int .i64 0,.int .i64 0,.int .i64 0,.bool false]):=zh (by rw[←hw3];exact Blk.new _ _ _)
   have hz2:=HBD.o.size
   clear hw3
   refine⟨HB3.o,?_⟩
   have HC:=zh (HAT.o w3 HB3.o)
   refine Zap ?_
   go_wp2_with fail
   refine HC.o.mono ?_
   rintro e' w4 ⟨rfl,hb4⟩
   have HB4:Hid (Below w1.heap.size w1 w4):=zh (HB3.o.trans (hb4.mono HB3.o.size))
   have HX4:Hid (Blk w4 wd.heap.size 36 #[.string ⟨#[]⟩,.string ⟨#[]⟩,.string ⟨#[]⟩,.int .i64 0,.int .i64 0,.int .i64 0,.bool false]):=zh ((hb4.block _ HX3.o.lt).trans HX3.o)
   clear hb4 HC
   go_wp2_with fail
   refine⟨HB4.o,?_⟩
   repeat (first|(refine Zal _ (by rfl) (fun W hW=>by (obtain⟨x8,x0,x1,x2,x3,x4,x5,x6,x7⟩:=HSC.o W hW;go_simp;try with_reducible rfl)) ?_;simp only[Act.put,xq1,xq2,xq3])|(refine planT_off (by rfl) ?_;simp only[Act.put,xq1,xq2,xq3]))
   refine Zap ?_
   refine Zad w4 rfl 36 _ _ rfl 0 #[.string X.name,.string X.maker,.string X.tags,.int .i64 X.stock,.int .i64 X.price,.int .i64 X.born,.bool X.listed] rfl rfl HX4.o (by simp) Znn (by simp[Value.oneCell']) ?_
   intro w5 hb5 hk5 hs5
   have HX5:Hid (Blk w5 wd.heap.size 36 #[.string X.name,.string X.maker,.string X.tags,.int .i64 X.stock,.int .i64 X.price,.int .i64 X.born,.bool X.listed]):=zh hb5
   have HB5:Hid (Below w1.heap.size w1 w5):=zh (HB4.o.trans (hk5.toBelow (fun i hi=>by rw[hi];exact hz2) HB4.o.size))
   clear hb5 hk5 hs5
   go_wp2_with fail
   refine⟨HB5.o,?_⟩
   repeat (first|(refine Zal _ (by rfl) (fun W hW=>by (obtain⟨x8,x0,x1,x2,x3,x4,x5,x6,x7⟩:=HSC.o W hW;go_simp;try with_reducible rfl)) ?_;simp only[Act.put,xq1,xq2,xq3])|(refine planT_off (by rfl) ?_;simp only[Act.put,xq1,xq2,xq3]))
   refine Zbf ?_
   go_wp2_with fail
   go_meet
   exact⟨zh ⟨_,rfl,HX5.o,HB5.o⟩,rfl⟩
 case rest=>
 obtain⟨hat,rfl⟩:=hcut
 obtain⟨w2,rfl⟩:∃w2:World,w2=wc:=⟨_,rfl⟩
 obtain⟨ib,rfl,hib,hb2⟩:=hat.o
 have HIB:=zh hib
 have HB2:=zh hb2
 have HG2:Hid (GlobAt w2):=zh (HG1.o.keep hb2 (zr _))
 have i2:w2.cell? ⟨ib,2,none⟩=some (.string X.tags):=hib.cell 2
 clear hat hib hb2 HAT HSC e3 hw1 z11 z12 z13 z14
 have hfew1:=HFEW.o.1
 have hfew2:X.tags.size≤301:=by
  rw[ByteArray.size_append]at hfew1
  omega
 go_upto_if 34 with fail
 go_cut [4] (fun v4 wx=>Hid (TagBox w1 v4 (tagsOf es e) wx))
 case first=>
  cases ok
  ·go_wp2_with fail
   go_meet
   have ht:tagsOf es e = []:=by rw[HTAGS.o];rfl
   exact zh ⟨none,0,by rw[ht];rfl,by rw[ht];exact RowIn.nil _ _ _ _,fun _ h=>(by cases h),HB2.o⟩
  ·have ht:Hid (tagsOf es e=evTags ((⟨#[59]⟩:ByteArray)++X.tags)):=zh (by rw[HTAGS.o];rfl)
   have HT:=zh (Zi3 ((⟨#[59]⟩:ByteArray)++X.tags) w2 (by omega) HG2.o)
   have hs1:(⟨#[59]⟩:ByteArray).size=1:=rfl
   go_wp2_with fail
   refine HT.o.mono ?_
   rintro e' w3 ⟨A,cc,rfl,hr,_,hnew,hb3⟩
   have HR:=zh hr
   have HN:=zh hnew
   have HB3:=zh hb3
   clear hr hnew hb3 HT
   go_wp2_with fail
   go_meet
   have hz:=HB2.o.size
   exact zh ⟨A,cc,by rw[ht.o],by rw[ht.o];exact HR.o,fun ad had=>Nat.le_trans hz (HN.o ad had),HB2.o.trans (HB3.o.mono hz)⟩
 case rest=>
 obtain⟨w3,rfl⟩:∃w3:World,w3=wc:=⟨_,rfl⟩
 obtain⟨A,cc,rfl,hrow,hnew,hb3⟩:=hcut.o
 obtain⟨L,hL⟩:∃L,(tagsOf es e).length=L:=⟨_,rfl⟩
 rw[hL]at hrow
 have hL4:L≤400:=by rw[←hL];exact HFEW.o.2.1
 have HB3:=zh hb3
 have HI3:Hid (WdG w3 wb base c v a last b τ n es' ad S (thgs es) (rowsW es)):=zh (HI1.o.below hb3)
 have HE3:Hid (Blk w3 w.heap.size 31 (evArr e)):=zh ((hb3.block _ HE1.o.lt).trans HE1.o)
 have HG3:Hid (GlobAt w3):=zh (HG1.o.keep hb3 (zr _))
 obtain⟨U,hU,hUt⟩:=HI3.o.crw
 have HU:=zh hU
 have HUT:=zh hUt
 have HRL2:=HRL.o
 have HAP:=zh (apply_any w3.drew b.cr (halfP c.half) U (rowsW es) e A (tagsOf es e) L cc (hU.kept ((Kept.refl (fun _=>False) w3).drew) (fun _ _ h=>h)) HOK.o.sh hL hrow.drew (fun t ht=>by have:=HFEW.o.2.2 t ht;unfold maxLen;omega) HG3.o.drew (by omega) (by omega) (fun _ ad had hu=>by
  have h1:=hnew ad had
  have h2:=(HI1.o.low ad.block (by rw[hUt _ hu];omega)).2
  omega))
 have HS3:Hid (CnS w3.drew wb 19 w.heap.size (.pointer (some ⟨b.cr,0,none⟩)) e):=zh (Zby HI3.o.blk.drew rfl HE3.o.drew)
 unfold evA at HAP
 rw[hL]
 clear hU hUt hrow hnew hb3 hcut i2
 go_wp2_with fail
 refine Zaq (fun W=>CnS W wb 19 w.heap.size (.pointer (some ⟨b.cr,0,none⟩)) e) [(0,1),(1,1),(2,1),(3,1),(4,1),(5,1),(6,3)] (by kernel_rfl) (by kernel_rfl) HS3.o ?_
 simp only[planNL,List.getElem?_cons_zero,List.getElem?_cons_succ]
 repeat (first|(refine Zan _ (by rfl) (fun W hW=>by (obtain⟨x8,x0,x1,x2,x3,x4,x5,x6,x7⟩:=hW;go_simp;try with_reducible rfl)) ?_;simp only[Act.put,xq1,xq2,xq3])|(refine planN_off (by rfl) ?_;simp only[Act.put,xq1,xq2,xq3])|(refine planN_on0 _ (by rfl) (fun W hW=>by (go_simp;try with_reducible rfl)) ?_;simp only[Act.put,xq1,xq2,xq3]))
 refine Zai ?_
 go_wp2_with fail
 refine HAP.o.mono ?_
 rintro e' w4 ⟨rfl,U',h1,_,h3,h4⟩
 have k34:Kept U w3 w4:=((Kept.refl U w3).drew).trans h4
 have HK34:=zh k34
 have HI4:Hid (WdG w4 wb base c v a last b (tauM τ w3.heap.size w4.heap.size 5) n es' ad S (thgs es) (rowsW (es++[e]))):=zh (HI3.o.new5 HUT.o HU.o.lt (by
  have:aftC (rowsW es) ⟨e,tagsOf es e⟩=rowsW (es++[e]):=by
   unfold aftC
   rw[show takesC (rowsW es) (⟨e,tagsOf es e⟩:Rw).e=true from HTK.o,if_pos rfl,HRW.o]
  rw[←this]
  exact h1) h3 k34)
 have HE4:Hid (Blk w4 w.heap.size 31 (evArr e)):=zh (HE3.o.kept k34 (fun hu=>by have:=HUT.o _ hu;rw[HEB.o]at this;cases this))
 have HKB4:Hid (Kept (fun q=>τ q≠0) w w4):=zh (((below_kept HB1.o (zr _)).trans (below_kept HB3.o (zr _))).trans (k34.mono (fun i _ hi=>by rw[HUT.o i hi];omega)))
 have HT4:Hid (tauM τ w3.heap.size w4.heap.size 5 w.heap.size=0):=zh (by rw[Zat HE3.o.lt];exact HEB.o)
 have HO4:Hid (∀q,q<w.heap.size→tauM τ w3.heap.size w4.heap.size 5 q=τ q):=zh (fun q hq=>Zat (Nat.lt_trans hq HE3.o.lt))
 obtain⟨τ4,hτ4⟩:∃τ4,tauM τ w3.heap.size w4.heap.size 5=τ4:=⟨_,rfl⟩
 rw[hτ4]at HI4 HT4 HO4
 have HW:=zh (Zhs e w4)
 have d0:w4.cell? ⟨w.heap.size,0,none⟩=some (.string e.src):=HE4.o.cell 0
 have d1:w4.cell? ⟨w.heap.size,1,none⟩=some (.int .i64 e.num):=HE4.o.cell 1
 have d2:w4.cell? ⟨w.heap.size,2,none⟩=some (.int .i64 e.tick):=HE4.o.cell 2
 have d3:w4.cell? ⟨w.heap.size,3,none⟩=some (.int .i64 e.kind):=HE4.o.cell 3
 have d4:w4.cell? ⟨w.heap.size,4,none⟩=some (.string e.person):=HE4.o.cell 4
 have d5:w4.cell? ⟨w.heap.size,5,none⟩=some (.string e.item):=HE4.o.cell 5
 have d6:w4.cell? ⟨w.heap.size,6,none⟩=some (.int .i64 e.value):=HE4.o.cell 6
 have d7:w4.cell? ⟨w.heap.size,7,none⟩=some (.string e.text):=HE4.o.cell 7
 unfold evA at HW
 clear h1 h3 h4 k34 HAP hτ4 HIB HB2 HG2 HFEW hfew1 hfew2
 go_wp2_with fail
 refine Zaj ?_
 go_wp2_with fail
 refine HW.o.mono ?_
 rintro e' w5 ⟨rfl,hb5⟩
 have HI5:Hid (WdG w5 wb base c v a last b τ4 n es' ad S (thgs es) (rowsW (es++[e]))):=zh (HI4.o.below hb5)
 have HE5:Hid (Blk w5 w.heap.size 31 (evArr e)):=zh ((hb5.block _ HE4.o.lt).trans HE4.o)
 have HKB5:Hid (Kept (fun q=>τ q≠0) w w5):=zh (HKB4.o.trans (below_kept hb5 (zr _)))
 clear hb5 HW d0 d1 d2 d3 d4 d5 d6 d7 HI4 HE4 HKB4
 by_cases hw0:0<worthP e
 rotate_left
 ·have q0:decide (0<worthP e)=false:=decide_eq_false hw0
  clear hw0
  go_wp2_with fail
  go_end0
  exact⟨rfl,τ4,by rw[HTH.o];exact HI5.o.mono (by omega),HKB5.o,HO4.o⟩
 have HMD:=zh (Zp6 HOK.o.1 hw0)
 have HTK5:=zh (Zas HOK.o.1).2.2.1
 have HW1:Hid (1≤worthP e∧worthP e≤1048576):=zh (by have:=HMD.o.2.2;omega)
 obtain⟨wt,hwt⟩:∃wt,worthP e=wt:=⟨_,rfl⟩
 rw[hwt]at HW1 hw0
 rw[hwt]
 have q0:decide (0<wt)=true:=decide_eq_true hw0
 clear hwt hw0
 obtain⟨B6,h6,h6t⟩:=HI5.o.pop
 have H6:=zh h6
 have H6T:=zh h6t
 have HC6:=zh (Zo8 w5.drew b.dc B6 n (h6.kept ((Kept.refl (fun _=>False) w5).drew) (fun _ _ h=>h)) e.item e.tick wt HMD.o.1 HTK5.o ⟨by have:=HW1.o.1;omega,HW1.o.2⟩ (by omega))
 have HS5:Hid (CnS w5.drew wb 20 w.heap.size (.pointer (some ⟨b.dc,0,none⟩)) e):=zh (Zby HI5.o.blk.drew rfl HE5.o.drew)
 clear h6 h6t
 go_wp2_with fail
 refine Zaq (fun W=>CnS W wb 20 w.heap.size (.pointer (some ⟨b.dc,0,none⟩)) e) [(0,1),(1,1),(2,1),(3,1),(4,1),(5,1),(6,1),(7,1),(8,1),(9,3)] (by kernel_rfl) (by kernel_rfl) HS5.o ?_
 simp only[planNL,List.getElem?_cons_zero,List.getElem?_cons_succ]
 repeat (first|(refine Zan _ (by rfl) (fun W hW=>by (obtain⟨x8,x0,x1,x2,x3,x4,x5,x6,x7⟩:=hW;go_simp;try with_reducible rfl)) ?_;simp only[Act.put,xq1,xq2,xq3])|(refine planN_off (by rfl) ?_;simp only[Act.put,xq1,xq2,xq3])|(refine planN_on0 _ (by rfl) (fun W hW=>by (go_simp;try with_reducible rfl)) ?_;simp only[Act.put,xq1,xq2,xq3]))
 refine Zai ?_
 go_wp2_with fail
 refine HC6.o.mono ?_
 rintro e' w6 ⟨rfl,F6,a6,g6,k6⟩
 have k56:Kept B6 w5 w6:=((Kept.refl B6 w5).drew).trans k6
 have HI6:Hid (WdG w6 wb base c v a last b (tauM τ4 w5.heap.size w6.heap.size 6) (n+2) es' ad S (thgs es) (rowsW (es++[e]))):=zh (HI5.o.new6 (by omega) H6T.o H6.o.lt a6 g6.new k56)
 have HE6:Hid (Blk w6 w.heap.size 31 (evArr e)):=zh (HE5.o.kept k56 (fun hu=>by have:=H6T.o _ hu;rw[HT4.o]at this;cases this))
 have HKB6:Hid (Kept (fun q=>τ q≠0) w w6):=zh (HKB5.o.trans' k56 (fun i hi hB=>by rw[←HO4.o i hi,H6T.o i hB];omega))
 have HT6:Hid (tauM τ4 w5.heap.size w6.heap.size 6 w.heap.size=0):=zh (by rw[Zat HE5.o.lt];exact HT4.o)
 have HO6:Hid (∀q,q<w.heap.size→tauM τ4 w5.heap.size w6.heap.size 6 q=τ q):=zh (fun q hq=>by rw[Zat (Nat.lt_trans hq HE5.o.lt)];exact HO4.o q hq)
 obtain⟨τ6,hτ6⟩:∃τ6,tauM τ4 w5.heap.size w6.heap.size 6=τ6:=⟨_,rfl⟩
 rw[hτ6]at HI6 HT6 HO6
 obtain⟨B7,h7,h7t⟩:=HI6.o.pan
 have H7:=zh h7
 have H7T:=zh h7t
 have HC7:=zh (Zpe w6.drew b.pn B7 (n+2) (h7.kept ((Kept.refl (fun _=>False) w6).drew) (fun _ _ h=>h)) e.item e.tick wt HMD.o.1 HTK5.o HW1.o (by omega))
 have HS6:Hid (CnS w6.drew wb 21 w.heap.size (.pointer (some ⟨b.pn,0,none⟩)) e):=zh (Zby HI6.o.blk.drew rfl HE6.o.drew)
 clear h7 h7t a6 g6 k6 k56 hτ6 HC6 HI5 HE5 HKB5
 go_wp2_with fail
 refine Zaj ?_
 go_wp2_with fail
 refine Zaq (fun W=>CnS W wb 21 w.heap.size (.pointer (some ⟨b.pn,0,none⟩)) e) [(0,1),(1,1),(2,1),(3,1),(4,1),(5,1),(6,1),(7,1),(8,1),(9,3)] (by kernel_rfl) (by kernel_rfl) HS6.o ?_
 simp only[planNL,List.getElem?_cons_zero,List.getElem?_cons_succ]
 repeat (first|(refine Zan _ (by rfl) (fun W hW=>by (obtain⟨x8,x0,x1,x2,x3,x4,x5,x6,x7⟩:=hW;go_simp;try with_reducible rfl)) ?_;simp only[Act.put,xq1,xq2,xq3])|(refine planN_off (by rfl) ?_;simp only[Act.put,xq1,xq2,xq3])|(refine planN_on0 _ (by rfl) (fun W hW=>by (go_simp;try with_reducible rfl)) ?_;simp only[Act.put,xq1,xq2,xq3]))
 refine Zai ?_
 go_wp2_with fail
 refine HC7.o.mono ?_
 rintro e' w7 ⟨rfl,F7,a7,g7,k7⟩
 have k67:Kept B7 w6 w7:=((Kept.refl B7 w6).drew).trans k7
 have HI7:Hid (WdG w7 wb base c v a last b (tauM τ6 w6.heap.size w7.heap.size 7) (n+2+3) es' ad S (thgs es) (rowsW (es++[e]))):=zh (HI6.o.new7 (by omega) H7T.o H7.o.lt a7 g7.new k67)
 have HE7:Hid (Blk w7 w.heap.size 31 (evArr e)):=zh (HE6.o.kept k67 (fun hu=>by have:=H7T.o _ hu;rw[HT6.o]at this;cases this))
 have HKB7:Hid (Kept (fun q=>τ q≠0) w w7):=zh (HKB6.o.trans' k67 (fun i hi hB=>by rw[←HO6.o i hi,H7T.o i hB];omega))
 have HT7:Hid (tauM τ6 w6.heap.size w7.heap.size 7 w.heap.size=0):=zh (by rw[Zat HE6.o.lt];exact HT6.o)
 have HO7:Hid (∀q,q<w.heap.size→tauM τ6 w6.heap.size w7.heap.size 7 q=τ q):=zh (fun q hq=>by rw[Zat (Nat.lt_trans hq HE6.o.lt)];exact HO6.o q hq)
 obtain⟨τ7,hτ7⟩:∃τ7,tauM τ6 w6.heap.size w7.heap.size 7=τ7:=⟨_,rfl⟩
 rw[hτ7]at HI7 HT7 HO7
 obtain⟨B8,h8,h8t⟩:=HI7.o.ses
 have H8:=zh h8
 have H8T:=zh h8t
 have HC8:=zh (Zpa w7.drew b.ss B8 (n+2+3) (h8.kept ((Kept.refl (fun _=>False) w7).drew) (fun _ _ h=>h)) e.person e.item e.tick HMD.o.2.1 HMD.o.1 HTK5.o (by omega))
 have HS7:Hid (CnS w7.drew wb 22 w.heap.size (.pointer (some ⟨b.ss,0,none⟩)) e):=zh (Zby HI7.o.blk.drew rfl HE7.o.drew)
 clear h8 h8t a7 g7 k7 k67 hτ7 HC7 HI6 HE6 HKB6
 go_wp2_with fail
 refine Zaj ?_
 go_wp2_with fail
 refine Zaq (fun W=>CnS W wb 22 w.heap.size (.pointer (some ⟨b.ss,0,none⟩)) e) [(0,1),(1,1),(2,1),(3,1),(4,1),(5,1),(6,1),(7,1),(8,1),(9,1),(10,3)] (by kernel_rfl) (by kernel_rfl) HS7.o ?_
 simp only[planNL,List.getElem?_cons_zero,List.getElem?_cons_succ]
 repeat (first|(refine Zan _ (by rfl) (fun W hW=>by (obtain⟨x8,x0,x1,x2,x3,x4,x5,x6,x7⟩:=hW;go_simp;try with_reducible rfl)) ?_;simp only[Act.put,xq1,xq2,xq3])|(refine planN_off (by rfl) ?_;simp only[Act.put,xq1,xq2,xq3])|(refine planN_on0 _ (by rfl) (fun W hW=>by (go_simp;try with_reducible rfl)) ?_;simp only[Act.put,xq1,xq2,xq3]))
 refine Zai ?_
 go_wp2_with fail
 refine HC8.o.mono ?_
 rintro e' w8 ⟨rfl,F8,a8,g8,k8⟩
 have k78:Kept B8 w7 w8:=((Kept.refl B8 w7).drew).trans k8
 have HI8:Hid (WdG w8 wb base c v a last b (tauM τ7 w7.heap.size w8.heap.size 8) (n+2+3+3) es' ad S (thgs es) (rowsW (es++[e]))):=zh (HI7.o.new8 (by omega) H8T.o H8.o.lt a8 g8.new k78)
 have HKB8:Hid (Kept (fun q=>τ q≠0) w w8):=zh (HKB7.o.trans' k78 (fun i hi hB=>by rw[←HO7.o i hi,H8T.o i hB];omega))
 have c23:w8.cell? ⟨wb,23,none⟩=some (.pointer none):=HI8.o.blk.cell 23
 have f23:w8.frozen? ⟨wb,23,none⟩=false:=HI8.o.blk.frozen 23
 clear a8 g8 k8 k78 HC8 HI7 HKB7
 go_wp2_with fail
 refine Zaj ?_
 go_wp2_with fail
 go_end0
 have kz:Kept (fun q=>q=wb) w8 (w8.setCell ⟨wb,23,none⟩ (.pointer none)):=Za8
 have hwb:τ wb≠0:=by rw[HI1.o.tw];omega
 refine⟨rfl,_,by rw[HTH.o];exact (HI8.o.new1 (a':=a) (last':=last) (HI8.o.blk.set_ 23 _) kz),HKB8.o.trans (kz.mono (fun i _ hi=>by rw[hi];exact hwb)),fun q hq=>by rw[Zat (Nat.lt_of_lt_of_le hq HKB8.o.size),Zat (Nat.lt_trans hq HE7.o.lt)];exact HO7.o q hq⟩
end Go.Proofs.YthdmpcnnbminlaaGreatDoor
namespace Go.Proofs.YthdmpcnnbminlaaGreatDoor
open Go.Shelf Go.RowKit Go.Maps
section
variable {w w' : World} {wb base n : Nat} {c : Cfg} {v v' : Value} {a : Bool} {last : Ev} {b : Wb} {τ : Nat → Nat} {es es' ad ad' : List Ev} {S : ByteArray → Bool} {th : List Ev} {rs : List Rw}
theorem Rest.row9 (R:Rest 9 w wb base c v a last b τ n es ad S th rs) (k:Kept (fun q=>q=wb) w w') (hb:Blk w' wb 111 (wdCells c v' a last b)) (ho:w'.ownsRow base 31 8 v' es'.length (es'.flatMap evC)) (hr:∀g,v'.ownBlock=some g→τ g=9):WdG w' wb base c v' a last b τ n es' ad S th rs:=by
 have off1:∀(m q:Nat),τ q=m+2→¬q=wb:=fun m q hq e=>by rw[e,R.tw]at hq;omega
 obtain⟨F,hF,hF2⟩:=R.cat (by omega)
 obtain⟨U,hU,hU2⟩:=R.crw (by omega)
 obtain⟨B6,h6,h62⟩:=R.pop (by omega)
 obtain⟨B7,h7,h72⟩:=R.pan (by omega)
 obtain⟨B8,h8,h82⟩:=R.ses (by omega)
 exact⟨hb,ho,(R.add (by omega)).kept k (off1 0 _ R.ta),(R.fgt (by omega)).kept k (off1 1 _ R.tf),⟨F,hF.kept k (fun q hq=>off1 2 q (hF2 q hq)),hF2⟩,⟨U,hU.kept k (fun q hq=>off1 3 q (hU2 q hq)),hU2⟩,⟨B6,h6.kept k (fun q hq=>off1 4 q (h62 q hq)),h62⟩,⟨B7,h7.kept k (fun q hq=>off1 5 q (h72 q hq)),h72⟩,⟨B8,h8.kept k (fun q hq=>off1 6 q (h82 q hq)),h82⟩,R.tw,R.ta,R.tf,hr,fun q hq=>⟨(R.low q hq).1,Nat.lt_of_lt_of_le (R.low q hq).2 k.size⟩⟩
theorem WdG.new9 {w'':World} (h:WdG w wb base c v a last b τ n es ad S th rs) (k:Kept (fun q=>v.ownBlock=some q) w w') (k2:Kept (fun q=>q=wb) w' w'') (hb:Blk w'' wb 111 (wdCells c v' a last b)) (ho:w''.ownsRow base 31 8 v' es'.length (es'.flatMap evC)) (hlt:∀g,v'.ownBlock=some g→g<w'.heap.size) (hr:v'.ownBlock=v.ownBlock∨∃g,v'.ownBlock=some g∧w.heap.size≤g):WdG w'' wb base c v' a last b (tauM τ w.heap.size w'.heap.size 9) n es' ad S th rs:=by
 refine (h.rest (m:=9) (k.mono (fun q _ hq=>h.tr q hq)) (by omega) h.base_le).row9 k2 hb ho (fun g hg=>?_)
 rcases hr with hr|⟨g',hr,hge⟩
 ·rw[hg]at hr
  have h1:=h.tr g hr.symm
  rw[Zat (h.low g (by rw[h1];omega)).2]
  exact h1
 ·rw[hg]at hr
  cases hr
  exact Zkb hge (hlt g hg)
theorem WdG.new2 (h:WdG w wb base c v a last b τ n es ad S th rs) (ha:IsI okBool w' b.ab (n+1) (idF ad')) (k:Kept (fun q=>q=b.ab) w w'):WdG w' wb base c v a last b (tauM τ w.heap.size w'.heap.size 2) (n+1) es ad' S th rs:=by
 have R:=(h.mono (Nat.le_succ n)).rest (m:=2) (k.mono (fun q _ hq=>by rw[hq];exact h.ta)) (by omega) h.base_le
 exact⟨R.blk (by omega),R.row (by omega),ha,R.fgt (by omega),R.cat (by omega),R.crw (by omega),R.pop (by omega),R.pan (by omega),R.ses (by omega),R.tw,R.ta,R.tf,R.tr (by omega),R.low⟩
theorem WdG.new3 {S':ByteArray→Bool} (h:WdG w wb base c v a last b τ n es ad S th rs) (ha:MapIs Tryz.prog 9 okBool w' b.fb (n+1) (mapG (stG S'))) (k:Kept (fun q=>q=b.fb) w w'):WdG w' wb base c v a last b (tauM τ w.heap.size w'.heap.size 3) (n+1) es ad S' th rs:=by
 have R:=(h.mono (Nat.le_succ n)).rest (m:=3) (k.mono (fun q _ hq=>by rw[hq];exact h.tf)) (by omega) h.base_le
 exact⟨R.blk (by omega),R.row (by omega),R.add (by omega),ha,R.cat (by omega),R.crw (by omega),R.pop (by omega),R.pan (by omega),R.ses (by omega),R.tw,R.ta,R.tf,R.tr (by omega),R.low⟩
end
theorem Zp7:(Tryz.prog.info? 31).map (·.size)=some 8:=by kernel_rfl
theorem Zp8 (c:Cfg) (v:Value) (a:Bool) (l e:Ev) (b:Wb):putA (wdCells c v a l b) 8 [.string e.src,.int .i64 e.num,.int .i64 e.tick,.int .i64 e.kind,.string e.person,.string e.item,.int .i64 e.value,.string e.text]=wdCells c v a e b:=by
 simp only[putA,wdCells,xq1,xq2,xq3]
theorem Zst (c:Cfg) (v v':Value) (a:Bool) (e:Ev) (b:Wb):(wdCells c v a e b).setIfInBounds 6 v'=wdCells c v' a e b:=by
 simp only[wdCells,xq1,xq2,xq3]
theorem Zg5 (es:List Ev) (e:Ev):(es++[e]).flatMap evC=es.flatMap evC++evC e:=by rw[List.flatMap_append];simp
def PutR (τ₀:Nat→Nat) (w:World) (wb base:Nat) (c:Cfg) (n:Nat) (es:List Ev) (S:ByteArray→Bool) (x:Ev) (e:Ending) (w':World):Prop:=e = .returned (.tuple #[])∧∃v b τ,WdG w' wb base c v true x b τ (n+9) (es++[x]) (es++[x]) S (thgs (es++[x])) (rowsW (es++[x]))∧Kept (fun q=>τ₀ q≠0) w w'∧∀q,q<w.heap.size→τ q=τ₀ q
theorem Zno (w:World) (wb base:Nat) (c:Cfg) (v:Value) (a:Bool) (last:Ev) (b:Wb) (τ:Nat→Nat) (n:Nat) (es' ad:List Ev) (S:ByteArray→Bool) (es:List Ev) (e:Ev) (h:WdG w wb base c v a last b τ n es' ad S (thgs es) (rowsW es)) (hnx:NextE es e) (hok:EvOk e) (hall:∀x∈es,EvOk x) (hlen:es.length≤10000) (hn:n≤800000) (hg:GlobAt w) (hgb:2<base) :
  Calls Tryz.prog 106 #[.pointer (some ⟨wb,0,none⟩),evA e] w (CountR τ w wb base c v a last b n es' ad S (es++[e])):=by
 have hk:=Zdr hok.1
 by_cases h1:e.kind<11
 ·exact Zjb w wb base c v a last b τ n es' ad S es e h hnx hok hall hlen hn hg h1
 ·by_cases h2:e.kind=14
  ·exact Zlr w wb base c v a last b τ n es' ad S es e h h2
  ·exact Zni w wb base c v a last b τ n es' ad S es e h hnx hok hlen hg hgb (decide_eq_true (by omega))
theorem Zp9 (w:World) (wb base:Nat) (c:Cfg) (v:Value) (a:Bool) (last:Ev) (b:Wb) (τ:Nat→Nat) (n:Nat) (S:ByteArray→Bool) (es:List Ev) (e:Ev) (h:WdG w wb base c v a last b τ n es es S (thgs es) (rowsW es)) (hnx:NextE es e) (hok:EvOk e) (hall:∀x∈es,EvOk x) (hlen:es.length≤10000) (hn:n≤700000) (hg:GlobAt w) (hgb:2<base) :
  Calls Tryz.prog 58 #[.pointer (some ⟨wb,0,none⟩),evA e] w (PutR τ w wb base c n es S e):=by
 obtain⟨A,cp,hv⟩:=own_shape h.row
 subst hv
 obtain⟨w1,hw1⟩:∃w1,w.alloc (.cells (evArr e) 31)=w1:=⟨_,rfl⟩
 have HE1:Hid (Blk w1 w.heap.size 31 (evArr e)):=zh (by rw[←hw1];exact Blk.new _ _ _)
 have HB1:Hid (Below w.heap.size w w1):=zh (by rw[←hw1];exact (Below.refl _ _).alloc (zr _) _)
 have HI1:Hid (WdG w1 wb base c (.slice A es.length cp) a last b τ n es es S (thgs es) (rowsW es)):=zh (h.below HB1.o)
 have HG1:Hid (GlobAt w1):=zh (hg.keep HB1.o (zr _))
 have hwl:wb<w.heap.size:=h.blk.lt
 have hwb:base≤wb:=(h.low wb (by rw[h.tw];omega)).1
 have HWT:Hid (τ wb≠0):=zh (by rw[h.tw];omega)
 have HAT:Hid (τ b.ab≠0):=zh (by rw[h.ta];omega)
 have HRT:Hid (∀g,(Value.slice A es.length cp).ownBlock=some g→τ g≠0):=zh (fun g hg=>by rw[h.tr g hg];omega)
 have HEB:Hid (τ w.heap.size=0):=zh (by
  by_cases hz:τ w.heap.size=0
  ·exact hz
  ·have:=(h.low _ hz).2;omega)
 have HOK:=zh hok
 have HALL:=zh hall
 have HNX:=zh hnx
 have HS1:Hid (CnS w1.drew wb 16 w.heap.size (.map (some b.ab)) e):=zh (Zby HI1.o.blk.drew rfl HE1.o.drew)
 have g7:w1.drew.cell? ⟨wb,7,none⟩=some (.bool a):=HI1.o.blk.drew.cell 7
 have f7:w1.drew.frozen? ⟨wb,7,none⟩=false:=HI1.o.blk.drew.frozen 7
 clear h hok hall hnx hg
 unfold evA
 unfold evArr at hw1
 go_enter Tryz.func58,Tryz.ntmps58
 go_upto_region 1 with fail
 refine Zar (fun W=>CnS W wb 16 w.heap.size (.map (some b.ab)) e) [(0,false),(1,false),(2,false),(3,false),(4,false),(5,true),(6,false),(7,false),(8,true)] (by kernel_rfl) (by kernel_rfl) HS1.o ?_
 simp only[planL,List.getElem?_cons_zero,List.getElem?_cons_succ]
 repeat (first|(refine Zaf _ (by rfl) (fun W hW=>by (obtain⟨x8,x0,x1,x2,x3,x4,x5,x6,x7⟩:=hW;go_simp;try with_reducible rfl)) ?_;simp only[Act.put,xq1,xq2,xq3])|(refine Zac (by rfl) ?_;simp only[Act.put,xq1,xq2,xq3]))
 refine Zae ?_
 go_wp2_with fail
 obtain⟨w2,hw2⟩:∃z,(w1.setCell ⟨wb,7,none⟩ (.bool true)).drew=z:=⟨_,rfl⟩
 rw[hw2]
 have k12:Kept (fun q=>q=wb) w1 w2:=by rw[←hw2];exact Za8.drew
 have HI2:Hid (WdG w2 wb base c (.slice A es.length cp) true last b (tauM τ w1.heap.size w2.heap.size 1) n es es S (thgs es) (rowsW es)):=zh (HI1.o.new1 (by rw[←hw2];exact (HI1.o.blk.set_ 7 _).drew) k12)
 have HE2:Hid (Blk w2 w.heap.size 31 (evArr e)):=zh (HE1.o.kept k12 (by omega))
 have HK2:Hid (Kept (fun q=>τ q≠0) w w2):=zh ((below_kept HB1.o (zr _)).trans (k12.mono (fun i _ hi=>by rw[hi];exact HWT.o)))
 have HT2:Hid (tauM τ w1.heap.size w2.heap.size 1 w.heap.size=0):=zh (by rw[Zat HE1.o.lt];exact HEB.o)
 have HG2:Hid (GlobAt w2):=zh (HG1.o.kept k12 (fun i hi=>by omega))
 have HO2:Hid (∀q,q<w.heap.size→tauM τ w1.heap.size w2.heap.size 1 q=τ q):=zh (fun q hq=>Zat (Nat.lt_trans hq HE1.o.lt))
 obtain⟨τ2,hτ2⟩:∃z,tauM τ w1.heap.size w2.heap.size 1=z:=⟨_,rfl⟩
 rw[hτ2]at HI2 HT2 HO2
 clear hw2 k12 hτ2 g7 f7 HI1 HE1 HB1 HS1 HG1 HEB
 refine⟨Zby HI2.o.blk rfl HE2.o,?_⟩
 repeat (first|(refine Zaf _ (by rfl) (fun W hW=>by (obtain⟨x8,x0,x1,x2,x3,x4,x5,x6,x7⟩:=hW;go_simp;try with_reducible rfl)) ?_;simp only[Act.put,xq1,xq2,xq3])|(refine Zac (by rfl) ?_;simp only[Act.put,xq1,xq2,xq3]))
 refine Zae ?_
 refine Zad w2 rfl 31 _ _ rfl 8 #[.string e.src,.int .i64 e.num,.int .i64 e.tick,.int .i64 e.kind,.string e.person,.string e.item,.int .i64 e.value,.string e.text] rfl rfl HI2.o.blk (by show 8+8≤24;omega) Zp7 (by simp[Value.oneCell']) ?_
 intro w3 hb3' k23 hs3
 have hb3:Blk w3 wb 111 (wdCells c (.slice A es.length cp) true e b):=by rw[←Zp8 c (.slice A es.length cp) true last e b];exact hb3'
 clear hb3'
 have HI3:Hid (WdG w3 wb base c (.slice A es.length cp) true e b (tauM τ2 w2.heap.size w3.heap.size 1) n es es S (thgs es) (rowsW es)):=zh (HI2.o.new1 hb3 k23)
 have HE3:Hid (Blk w3 w.heap.size 31 (evArr e)):=zh (HE2.o.kept k23 (by omega))
 have HK3:Hid (Kept (fun q=>τ q≠0) w w3):=zh (HK2.o.trans (k23.mono (fun i _ hi=>by rw[hi];exact HWT.o)))
 have HT3:Hid (tauM τ2 w2.heap.size w3.heap.size 1 w.heap.size=0):=zh (by rw[Zat HE2.o.lt];exact HT2.o)
 have HG3:Hid (GlobAt w3):=zh (HG2.o.kept k23 (fun i hi=>by omega))
 have HO3:Hid (∀q,q<w.heap.size→tauM τ2 w2.heap.size w3.heap.size 1 q=τ q):=zh (fun q hq=>by rw[Zat (Nat.lt_trans hq HE2.o.lt)];exact HO2.o q hq)
 obtain⟨τ3,hτ3⟩:∃z,tauM τ2 w2.heap.size w3.heap.size 1=z:=⟨_,rfl⟩
 rw[hτ3]at HI3 HT3 HO3
 clear hb3 k23 hs3 hτ3 HI2 HE2 HK2 HT2 HG2
 go_wp2_with fail
 refine⟨Zby HI3.o.blk rfl HE3.o,?_⟩
 refine Zah ?_
 obtain⟨Ma,hMa,hMaI⟩:=HI3.o.add
 have HMA:=zh hMa
 have HMI:=zh hMaI
 have hsz:e.src.size≤maxLen:=by have:=HOK.o.2.1;unfold maxLen;omega
 have HIR:Hid (InR e.num):=zh (by have:=(Zas HOK.o.1).2.1;unfold InR;omega)
 have HKEY:=zh (Zhu e.src e.num hsz HIR.o)
 have HS3:Hid (CnS w3.drew wb 16 w.heap.size (.map (some b.ab)) e):=zh (Zby HI3.o.blk.drew rfl HE3.o.drew)
 clear hMa hMaI
 go_wp2_with fail
 refine Zaq (fun W=>CnS W wb 16 w.heap.size (.map (some b.ab)) e) [(0,1),(1,1),(2,1),(3,1),(4,1),(5,1),(6,1),(7,1),(8,1),(9,3)] (by kernel_rfl) (by kernel_rfl) HS3.o ?_
 simp only[planNL,List.getElem?_cons_zero,List.getElem?_cons_succ]
 repeat (first|(refine Zan _ (by rfl) (fun W hW=>by (obtain⟨x8,x0,x1,x2,x3,x4,x5,x6,x7⟩:=hW;go_simp;try with_reducible rfl)) ?_;simp only[Act.put,xq1,xq2,xq3])|(refine planN_off (by rfl) ?_;simp only[Act.put,xq1,xq2,xq3])|(refine planN_on0 _ (by rfl) (fun W hW=>by (go_simp;try with_reducible rfl)) ?_;simp only[Act.put,xq1,xq2,xq3]))
 refine Zai ?_
 go_wp2_with (first
  | (at_mapUpdate;refine Zag _ rfl _ _ _ 104 rfl 172 4 idnKeyed Tryz.underlying104 okBool b.ab n Ma rfl HMA.o.drew (by unfold maxLen;omega) _ (.bool true) _ rfl rfl HKEY.o rfl ?_;intro w4 hm4 hg4 hs4))
 have k34:Kept (fun q=>q=b.ab) w3 w4:=((Kept.refl (fun q=>q=b.ab) w3).drew).grown hg4 (fun j hj=>Or.inl (by cases hj;rfl))
 have HI4:Hid (WdG w4 wb base c (.slice A es.length cp) true e b (tauM τ3 w3.heap.size w4.heap.size 2) (n+1) es (es++[e]) S (thgs es) (rowsW es)):=zh (HI3.o.new2 ⟨_,hm4,fun x k hx hk=>by rw[Zr7 HMI.o hsz HIR.o (.bool true) x k hx hk,Zpi]⟩ k34)
 have hab:base≤b.ab:=(HI3.o.low _ (by rw[HI3.o.ta];omega)).1
 have HE4:Hid (Blk w4 w.heap.size 31 (evArr e)):=zh (HE3.o.kept k34 (fun hq=>by have:=HI3.o.ta;rw[←hq,HT3.o]at this;omega))
 have HK4:Hid (Kept (fun q=>τ q≠0) w w4):=zh (HK3.o.trans (k34.mono (fun i _ hi=>by rw[hi];exact HAT.o)))
 have HT4:Hid (tauM τ3 w3.heap.size w4.heap.size 2 w.heap.size=0):=zh (by rw[Zat HE3.o.lt];exact HT3.o)
 have HG4:Hid (GlobAt w4):=zh (HG3.o.kept k34 (fun i hi=>by omega))
 have HO4:Hid (∀q,q<w.heap.size→tauM τ3 w3.heap.size w4.heap.size 2 q=τ q):=zh (fun q hq=>by rw[Zat (Nat.lt_trans hq HE3.o.lt)];exact HO3.o q hq)
 obtain⟨τ4,hτ4⟩:∃z,tauM τ3 w3.heap.size w4.heap.size 2=z:=⟨_,rfl⟩
 rw[hτ4]at HI4 HT4 HO4
 clear hm4 hg4 hs4 k34 hτ4 HI3 HE3 HK3 HT3 HG3 HMA HMI HKEY HS3
 have HS4:Hid (CnS w4.drew wb 6 w.heap.size (.slice A es.length cp) e):=zh (Zby HI4.o.blk.drew rfl HE4.o.drew)
 obtain⟨i0,hi0,hy0,hy1,hy2⟩:=info_parts Zdd
 go_wp2_with fail
 refine Zaj ?_
 go_wp2_with fail
 refine Zaq (fun W=>CnS W wb 6 w.heap.size (.slice A es.length cp) e) [(0,1),(1,1),(2,1),(3,1),(4,1),(5,1),(6,2),(7,2),(8,1),(9,1),(10,3)] (by kernel_rfl) (by kernel_rfl) HS4.o ?_
 simp only[planNL,List.getElem?_cons_zero,List.getElem?_cons_succ]
 repeat (first|(refine Zan _ (by rfl) (fun W hW=>by (obtain⟨x8,x0,x1,x2,x3,x4,x5,x6,x7⟩:=hW;go_simp;try with_reducible rfl)) ?_;simp only[Act.put,xq1,xq2,xq3])|(refine planN_off (by rfl) ?_;simp only[Act.put,xq1,xq2,xq3])|(refine planN_on0 _ (by rfl) (fun W hW=>by (go_simp;try with_reducible rfl)) ?_;simp only[Act.put,xq1,xq2,xq3]))
 refine Za4 ?_
 go_wp2_with fail
 obtain⟨w5,hw5⟩:∃z,(w4.alloc (.cells #[.string e.src,.int .i64 e.num,.int .i64 e.tick,.int .i64 e.kind,.string e.person,.string e.item,.int .i64 e.value,.string e.text] 31)).drew=z:=⟨_,rfl⟩
 rw[hw5]
 have k45:Kept (fun _=>False) w4 w5:=by rw[←hw5];exact ((Kept.refl _ _).alloc _).drew
 have HI5:Hid (WdG w5 wb base c (.slice A es.length cp) true e b τ4 (n+1) es (es++[e]) S (thgs es) (rowsW es)):=zh (HI4.o.kept k45 (fun _ h=>h.elim))
 have HE5:Hid (Blk w5 w.heap.size 31 (evArr e)):=zh (HE4.o.kept k45 (fun h=>h))
 have HK5:Hid (Kept (fun q=>τ q≠0) w w5):=zh (HK4.o.trans (k45.mono (fun _ _ h=>h.elim)))
 have HG5:Hid (GlobAt w5):=zh (HG4.o.kept k45 (fun _ _ h=>h))
 have HR5:Hid (RowIn w5 (w4.heap.size+1) 8 (some ⟨w4.heap.size,0,none⟩) 1 (evC e)):=zh (by rw[←hw5];exact (Zhm w4 e _).drew)
 have HZ5:Hid (w4.heap.size+1≤w5.heap.size):=zh (by rw[←hw5];show _≤(w4.alloc _).heap.size;simp)
 have HBS:=zh HI5.o.base_le
 clear hw5 k45 HI4 HE4 HK4 HG4 HS4
 refine⟨Zby HI5.o.blk rfl HE5.o,?_⟩
 refine Za4 ?_
 go_wp2_with (first
  | (at_builtin;refine Zaa _ rfl _ _ 24 rfl base 31 i0 _ 8 96 Tryz.underlying24 hi0 hy0 hy1 hy2 rfl (by omega) (.slice A es.length cp) es.length _ rfl HI5.o.row (w4.heap.size+1) (some ⟨w4.heap.size,0,none⟩) 1 1 (evC e) rfl HR5.o (fun h=>by cases h) (fun u hu=>Zb1 [e] u (by simpa using hu)) (by unfold maxLen;omega) (by omega) HBS.o ?_;intro v6 w6 ho6 hg6 hv6))
 obtain⟨A6,c6,hv⟩:=own_shape ho6
 subst hv
 have k56:Kept (fun q=>(Value.slice A es.length cp).ownBlock=some q) w5 w6:=(Kept.refl _ _).grown hg6 (fun j hj=>Or.inl hj)
 have HK56:=zh k56
 have HB6:Hid (Blk w6 wb 111 (wdCells c (.slice A es.length cp) true e b)):=zh (HI5.o.blk.kept k56 (fun hq=>Za1 HI5.o.row HI5.o.blk (by decide) hq))
 have HE6:Hid (Blk w6 w.heap.size 31 (evArr e)):=zh (HE5.o.kept k56 (fun hq=>by have:=HI5.o.tr _ hq;rw[HT4.o]at this;cases this))
 have HO6:=zh ho6
 have HV6:=zh hv6
 have c66:w6.cell? ⟨wb,6,none⟩=some (.slice A es.length cp):=HB6.o.cell 6
 have f66:w6.frozen? ⟨wb,6,none⟩=false:=HB6.o.frozen 6
 clear ho6 hg6 hv6 k56
 refine⟨Zby HB6.o rfl HE6.o,?_⟩
 repeat (first|(refine Zan _ (by rfl) (fun W hW=>by (obtain⟨x8,x0,x1,x2,x3,x4,x5,x6,x7⟩:=hW;go_simp;try with_reducible rfl)) ?_;simp only[Act.put,xq1,xq2,xq3])|(refine planN_off (by rfl) ?_;simp only[Act.put,xq1,xq2,xq3])|(refine planN_on0 _ (by rfl) (fun W hW=>by (go_simp;try with_reducible rfl)) ?_;simp only[Act.put,xq1,xq2,xq3]))
 refine Zai ?_
 go_wp2_with fail
 obtain⟨w7,hw7⟩:∃z,w6.setCell ⟨wb,6,none⟩ (.slice A6 (es.length+1) c6)=z:=⟨_,rfl⟩
 rw[hw7]
 have k67:Kept (fun q=>q=wb) w6 w7:=by rw[←hw7];exact Za8
 have HB7:Hid (Blk w7 wb 111 (wdCells c (.slice A6 (es.length+1) c6) true e b)):=zh (by rw[←Zst c (.slice A es.length cp),←hw7];exact HB6.o.set_ 6 _)
 have HI7:Hid (WdG w7 wb base c (.slice A6 (es.length+1) c6) true e b (tauM τ4 w5.heap.size w6.heap.size 9) (n+1) (es++[e]) (es++[e]) S (thgs es) (rowsW es)):=zh (HI5.o.new9 HK56.o k67 HB7.o (by rw[List.length_append,Zg5];exact owns_kept HO6.o k67 (fun g hg e=>Za1 HO6.o HB6.o (by decide) (by rw[←e];exact hg))) (fun g hg=>(HO6.o.lt g hg).2) (HV6.o.imp id (fun h=>⟨_,h,zr _⟩)))
 have HE7:Hid (Blk w7 w.heap.size 31 (evArr e)):=zh (HE6.o.kept k67 (by omega))
 have HK7:Hid (Kept (fun q=>τ q≠0) w w7):=zh ((HK5.o.trans (HK56.o.mono (fun i _ hi=>HRT.o i hi))).trans (k67.mono (fun i _ hi=>by rw[hi];exact HWT.o)))
 have HG7:Hid (GlobAt w7):=zh ((HG5.o.kept HK56.o (fun i hi hq=>by have:=(HI5.o.low i (by rw[HI5.o.tr i hq];omega)).1;omega)).kept k67 (fun i hi=>by omega))
 have HO7:Hid (∀q,q<w.heap.size→tauM τ4 w5.heap.size w6.heap.size 9 q=τ q):=zh (fun q hq=>by rw[Zat (Nat.lt_trans hq HE5.o.lt)];exact HO4.o q hq)
 have HC:=zh (Zno w7 wb base c (.slice A6 (es.length+1) c6) true e b _ (n+1) (es++[e]) (es++[e]) S es e HI7.o HNX.o HOK.o HALL.o hlen (by omega) HG7.o hgb)
 unfold evA at HC
 have d0:w7.cell? ⟨w.heap.size,0,none⟩=some (.string e.src):=HE7.o.cell 0
 have d1:w7.cell? ⟨w.heap.size,1,none⟩=some (.int .i64 e.num):=HE7.o.cell 1
 have d2:w7.cell? ⟨w.heap.size,2,none⟩=some (.int .i64 e.tick):=HE7.o.cell 2
 have d3:w7.cell? ⟨w.heap.size,3,none⟩=some (.int .i64 e.kind):=HE7.o.cell 3
 have d4:w7.cell? ⟨w.heap.size,4,none⟩=some (.string e.person):=HE7.o.cell 4
 have d5:w7.cell? ⟨w.heap.size,5,none⟩=some (.string e.item):=HE7.o.cell 5
 have d6:w7.cell? ⟨w.heap.size,6,none⟩=some (.int .i64 e.value):=HE7.o.cell 6
 have d7:w7.cell? ⟨w.heap.size,7,none⟩=some (.string e.text):=HE7.o.cell 7
 clear hw7 k67 c66 f66
 go_wp2_with fail
 refine Zaj ?_
 go_wp2_with fail
 refine HC.o.mono ?_
 rintro e' w8 ⟨rfl,τ8,h8,k8,o8⟩
 have H8:=zh h8
 have K8:=zh k8
 have O8:=zh o8
 clear h8 k8 o8 d0 d1 d2 d3 d4 d5 d6 d7
 go_wp2_with fail
 go_end0
 exact⟨rfl,_,b,τ8,H8.o,HK7.o.trans' K8.o (fun i hi hq=>by rw[←HO7.o i hi];exact hq),fun q hq=>by rw[O8.o q (Nat.lt_of_lt_of_le hq HK7.o.size)];exact HO7.o q hq⟩
end Go.Proofs.YthdmpcnnbminlaaGreatDoor
namespace Go.Proofs.YthdmpcnnbminlaaGreatDoor
open Go.Shelf Go.RowKit Go.Maps
end Go.Proofs.YthdmpcnnbminlaaGreatDoor

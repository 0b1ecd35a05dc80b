/- A part of the joined base. -/
import Derived.Test.YtphmhbcimhlcjaaGreatDoorT28
set_option linter.unusedVariables false
set_option maxHeartbeats 8000000
set_option maxRecDepth 100000
namespace Go.Proofs.YtphmhbcimhlcjaaGreatDoor
open Go.Shelf Go.RowKit Go.Maps
open Ru (Fz fzA fzX FAC Zed ROf)
theorem Zql:(Tryz.prog.info? 108).map (·.size)=some 6:=by kernel_rfl
theorem of_any (w:World)(wb ct cr:Nat)(c:Cfg)(E:List Ev)(p i:ByteArray)(now:Int)(q:Option Addr)(H:Fz->Bool)(h:WrAt w wb ct cr c E)(hr:RuleH w (.pointer q) H)(hall:∀e∈E,EvOk e)(hlen:E.length<=1000)(hp:p.size<=300)(hi:i.size<=300)(hnow:InR now)(htg:(fzOf E p i now).tags.size<=300) :
  Calls Tryz.prog 12 #[.pointer (some ⟨wb,0,none⟩),.string p,.string i,.int .i64 now,.pointer q] w fun e w'=>e = .returned (.int .i64 (whyP (fzOf E p i now) (hidP E p i now) c.crowd c.span (H (fzOf E p i now)):Nat))/\Below w.heap.size w w':=by
 obtain⟨z,hz⟩:=zG (fzOf E p i now);obtain⟨hd,hhd⟩:=zG (hidP E p i now);have HMK:Hid ((hidO (rowsW E) p i).getD false=false->decide (mutO (rowsW E) p z.maker=some true)=hd):=zh (fun h0=>by rw[<-hhd,<-hz];unfold hidP;rw[h0];rfl);have HMO:Hid ((hidO (rowsW E) p i).getD false=true->true=hd):=zh (fun h0=>by rw[<-hhd];unfold hidP;rw[h0];rfl);obtain⟨w1,hw1⟩:=zG (w.alloc (.cells #[.pointer (some ⟨wb,0,none⟩)] 39));obtain⟨w2,hw2⟩:=zG (w1.alloc (.cells #[.string p] 9));obtain⟨w3,hw3⟩:=zG (w2.alloc (.cells #[.string i] 9));obtain⟨w4,hw4⟩:=zG (w3.alloc (.cells #[.pointer q] 45));have hb1:Below w.heap.size w w1:=by rw[<-hw1];exact (Below.refl _ _).alloc (zr _) _
 have hb2:Below w1.heap.size w1 w2:=by rw[<-hw2];exact (Below.refl _ _).alloc (zr _) _
 have hb3:Below w2.heap.size w2 w3:=by rw[<-hw3];exact (Below.refl _ _).alloc (zr _) _
 have hb4:Below w3.heap.size w3 w4:=by rw[<-hw4];exact (Below.refl _ _).alloc (zr _) _
 have x1:Blk w1 w.heap.size 39 #[.pointer (some ⟨wb,0,none⟩)]:=by rw[<-hw1];exact Blk.new _ _ _
 have x2:Blk w2 w1.heap.size 9 #[.string p]:=by rw[<-hw2];exact Blk.new _ _ _
 have x3:Blk w3 w2.heap.size 9 #[.string i]:=by rw[<-hw3];exact Blk.new _ _ _
 have x4:Blk w4 w3.heap.size 45 #[.pointer q]:=by rw[<-hw4];exact Blk.new _ _ _
 have hb34:Below w2.heap.size w2 w4:=hb3.trans (hb4.mono hb3.size);have hb24:Below w1.heap.size w1 w4:=hb2.trans (hb34.mono hb2.size);have hb14:Below w.heap.size w w4:=hb1.trans (hb24.mono hb1.size);have HX1:Hid (Blk w4 w.heap.size 39 #[.pointer (some ⟨wb,0,none⟩)]):=zh ((hb24.block _ x1.lt).trans x1);have HX2:Hid (Blk w4 w1.heap.size 9 #[.string p]):=zh ((hb34.block _ x2.lt).trans x2);have HX3:Hid (Blk w4 w2.heap.size 9 #[.string i]):=zh ((hb4.block _ x3.lt).trans x3);have HX4:Hid (Blk w4 w3.heap.size 45 #[.pointer q]):=zh x4;have HB4:=zh hb14;have HFA:=zh (Znv w4 wb ct cr c E p i now (h.below hb14) hall hlen hp hi hnow);unfold FactsR at HFA;rw[hz]at HFA htg;have HR4:=zh (h.below hb14);have HRU4:=zh (hr.below hb14);have HLN:=zh hlen;have HPI:=zh (show p.size<=300/\i.size<=300/\z.tags.size<=300 from ⟨hp,hi,htg⟩);have HY:Hid (whyP z hd c.crowd c.span (H z)=fstW (rowL z hd c.crowd c.span (H z)) 0):=zh (Zqk _ _ _ _ _);have y0:=HX1.o.cell 0;have y1:=HX2.o.cell 0;have y2:=HX3.o.cell 0;rw[hz,hhd];obtain⟨Y,hYY⟩:=zG (whyP z hd c.crowd c.span (H z));rw[hYY]at HY;rw[hYY];clear hYY;clear h hr hall hlen hp hi hnow htg hb1 hb2 hb3 hb4 x1 x2 x3 x4 hb34 hb24 hb14 hz hhd;unfold fzA at HFA;go_enter Tryz.func12,Tryz.ntmps12;go_wp2_with fail;refine HFA.o.mono ?_;rintro e w5 ⟨rfl,hb5⟩;obtain⟨w6,hw6⟩:=zG (w5.alloc (.cells #[.string z.name,.string z.maker,.string z.tags,.int .i64 z.stock,.int .i64 z.price,.int .i64 z.born,.bool z.listed,.int .i64 z.now,.int .i64 z.age,.int .i64 z.fans,.bool z.follows,.bool z.done] 101));have hb6:Below w5.heap.size w5 w6:=by rw[<-hw6];exact (Below.refl _ _).alloc (zr _) _
 have x5:Blk w6 w5.heap.size 101 (fzA z):=by rw[<-hw6];exact Blk.new _ _ _
 have hb46:Below w4.heap.size w4 w6:=hb5.trans (hb6.mono hb5.size);have HB6:Hid (Below w4.heap.size w4 w6):=zh hb46;have HX6:=zh x5;have y0:w6.cell? ⟨w.heap.size,0,none⟩=some (.pointer (some ⟨wb,0,none⟩)):=(hb46.cell (p:=⟨w.heap.size,0,none⟩) HX1.o.lt).trans (HX1.o.cell 0);have HC6:=zh (Zbt (HR4.o.below hb46));clear hb5 hb6 x5 hb46 HFA;go_wp2_with fail;refine HC6.o.mono ?_;rintro e w6' ⟨rfl,rfl⟩;obtain⟨w7,hw7⟩:=zG (w6.alloc (.cells #[.pointer (some ⟨cr,0,none⟩)] 73));have hb7:Below w6.heap.size w6 w7:=by rw[<-hw7];exact (Below.refl _ _).alloc (zr _) _
 have x7:Blk w7 w6.heap.size 73 #[.pointer (some ⟨cr,0,none⟩)]:=by rw[<-hw7];exact Blk.new _ _ _
 obtain⟨wa,hwa⟩:=zG (w7.alloc (.cells #[.nilFunc,.nilFunc,.nilFunc,.nilFunc,.nilFunc,.nilFunc] 108));have hb8:Below w7.heap.size w7 wa:=by rw[<-hwa];exact (Below.refl _ _).alloc (zr _) _
 have HXA:Hid (Blk wa w7.heap.size 108 #[.nilFunc,.nilFunc,.nilFunc,.nilFunc,.nilFunc,.nilFunc]):=zB hwa;have HB7A:=zh hb8;have HB67:=zh hb7;have HX7:=zh x7;clear hb7 hb8 x7 HC6 y0 y1 y2
 go_upto_region 5 with (first
  | (refine Zad _ rfl 108 (.tmp 14) (.tmp 31) rfl 0 #[.func (Fn.func 40) #[] #[.pointer (some ⟨w5.heap.size,0,none⟩)],.func (Fn.func 41) #[] #[.pointer (some ⟨w5.heap.size,0,none⟩)],.func (Fn.func 36) #[] #[.pointer (some ⟨w6.heap.size,0,none⟩),.pointer (some ⟨w1.heap.size,0,none⟩),.pointer (some ⟨w2.heap.size,0,none⟩),.pointer (some ⟨w5.heap.size,0,none⟩)],.func (Fn.func 42) #[] #[.pointer (some ⟨w5.heap.size,0,none⟩)],.func (Fn.func 43) #[] #[.pointer (some ⟨w5.heap.size,0,none⟩),.pointer (some ⟨w.heap.size,0,none⟩)],.func (Fn.func 44) #[] #[.pointer (some ⟨w3.heap.size,0,none⟩),.pointer (some ⟨w5.heap.size,0,none⟩)]] rfl rfl HXA.o (by show 0+6<=6;omega) Zql (by simp[Value.oneCell']) ?_;intro w8 hb8 hk8 hs8)
  | fail)
 have hkb8:Below w7.heap.size w7 w8:=HB7A.o.trans (hk8.toBelow (fun i hi=>by rw[hi];exact zr _) HB7A.o.size);have hb68:Below w6.heap.size w6 w8:=HB67.o.trans (hkb8.mono HB67.o.size);have hb48:Below w4.heap.size w4 w8:=HB6.o.trans (hb68.mono HB6.o.size)
 have HFC:Hid (FcAt w8 w.heap.size w1.heap.size w2.heap.size w3.heap.size w6.heap.size w5.heap.size wb cr p i (.pointer q) z):=zh (by
  refine⟨(hb48.cell (p:=⟨w.heap.size,0,none⟩) HX1.o.lt).trans (HX1.o.cell 0),(hb48.cell (p:=⟨w1.heap.size,0,none⟩) HX2.o.lt).trans (HX2.o.cell 0),(hb48.cell (p:=⟨w2.heap.size,0,none⟩) HX3.o.lt).trans (HX3.o.cell 0),(hb48.cell (p:=⟨w3.heap.size,0,none⟩) HX4.o.lt).trans (HX4.o.cell 0),(hkb8.cell (p:=⟨w6.heap.size,0,none⟩) HX7.o.lt).trans (HX7.o.cell 0),(hb68.block _ HX6.o.lt).trans HX6.o,?_⟩;have:=hb48.size;have:=hkb8.size;have:=HX1.o.lt;have:=HX2.o.lt;have:=HX3.o.lt;have:=HX4.o.lt;have:=HX7.o.lt;omega)
 have HR8:=zh (HR4.o.below hb48);have HRU8:=zh (HRU4.o.below hb48);have HB8:=zT HB4 hb48;simp only[putA,xq1,xq2,xq3]at hb8;have a0:=hb8.cell 0;have a1:=hb8.cell 1;have a2:=hb8.cell 2;have a3:=hb8.cell 3;have a4:=hb8.cell 4;have a5:=hb8.cell 5;simp at a0 a1 a2 a3 a4 a5;clear hb8 hk8 hs8 hkb8 hb68 hb48 hw1 hw2 hw3 hw4 hw6 hw7 hwa;go_wp2_with fail;clear a0 a1 a2 a3 a4 a5;go_loopw [33] (fun i wr=>∃k:Int,(0<=k/\k<=6)/\i = .int .i64 k/\Hid (Y=fstW ((rowL z hd c.crowd c.span (H z)).drop k.toNat) k.toNat)/\Hid (Below w8.heap.size w8 wr)) (fun i _=>6 - (intOf i).toNat)
 case atStart=>exact⟨0,by omega,rfl,HY,zh (Below.refl _ _)⟩
 case round=>
  obtain⟨k,hk,rfl,hy,hbw⟩:=hrel;have HBW:=hbw.o;have HW:=zh HBW;have hwz:=HBW.size;have HZ:=zh (HB8.o.size);by_cases hk0:k=0
  ·subst hk0;have hix:∀W:World,(Instr.index 108 (.agg #[.func (Fn.func 40) #[] #[.pointer (some ⟨w5.heap.size,0,none⟩)],.func (Fn.func 41) #[] #[.pointer (some ⟨w5.heap.size,0,none⟩)],.func (Fn.func 36) #[] #[.pointer (some ⟨w6.heap.size,0,none⟩),.pointer (some ⟨w1.heap.size,0,none⟩),.pointer (some ⟨w2.heap.size,0,none⟩),.pointer (some ⟨w5.heap.size,0,none⟩)],.func (Fn.func 42) #[] #[.pointer (some ⟨w5.heap.size,0,none⟩)],.func (Fn.func 43) #[] #[.pointer (some ⟨w5.heap.size,0,none⟩),.pointer (some ⟨w.heap.size,0,none⟩)],.func (Fn.func 44) #[] #[.pointer (some ⟨w3.heap.size,0,none⟩),.pointer (some ⟨w5.heap.size,0,none⟩)]]) (.int .i64 0)).run Tryz.prog W = .ok (.func (Fn.func 40) #[] #[.pointer (some ⟨w5.heap.size,0,none⟩)]) W:=fun _=>by kernel_rfl
   have HC:=zh (Zsw (HFC.o.below HBW));have hy1:=hy.o;have hy':=hy1;obtain⟨b,hb⟩:=zG ((!z.listed):Bool);unfold rowL at hy';simp only[List.drop_zero,fstW,Int.toNat]at hy';rw[hb]at HC hy';have HYY:=zh hy';clear hy hy' HBW hb hbw hwz;go_wp2_with fail;refine HC.o.mono ?_;rintro e w9 ⟨rfl,hb9⟩;have HW9:=zT HW hb9;clear hb9 HC;cases b with
   | true=>
    go_wp2_with fail;go_ret;refine⟨by rw[HYY.o];rfl,HB8.o.trans (HW9.o.mono HB8.o.size)⟩
   | false=>
    go_wp2_with fail;go_roundw
    case rel=>exact⟨1,by omega,rfl,zh (by rw[HYY.o];rfl),HW9⟩
    case measure=>decide
  by_cases hk1:k=1
  ·subst hk1;have hix:∀W:World,(Instr.index 108 (.agg #[.func (Fn.func 40) #[] #[.pointer (some ⟨w5.heap.size,0,none⟩)],.func (Fn.func 41) #[] #[.pointer (some ⟨w5.heap.size,0,none⟩)],.func (Fn.func 36) #[] #[.pointer (some ⟨w6.heap.size,0,none⟩),.pointer (some ⟨w1.heap.size,0,none⟩),.pointer (some ⟨w2.heap.size,0,none⟩),.pointer (some ⟨w5.heap.size,0,none⟩)],.func (Fn.func 42) #[] #[.pointer (some ⟨w5.heap.size,0,none⟩)],.func (Fn.func 43) #[] #[.pointer (some ⟨w5.heap.size,0,none⟩),.pointer (some ⟨w.heap.size,0,none⟩)],.func (Fn.func 44) #[] #[.pointer (some ⟨w3.heap.size,0,none⟩),.pointer (some ⟨w5.heap.size,0,none⟩)]]) (.int .i64 1)).run Tryz.prog W = .ok (.func (Fn.func 41) #[] #[.pointer (some ⟨w5.heap.size,0,none⟩)]) W:=fun _=>by kernel_rfl
   have HC:=zh (Zsx (HFC.o.below HBW));have hy1:=hy.o;have hy':=hy1;obtain⟨b,hb⟩:=zG (decide (z.stock=0):Bool);unfold rowL at hy';simp only[List.drop_succ_cons,List.drop_zero,fstW,Int.toNat]at hy';rw[hb]at HC hy';have HYY:=zh hy';clear hy hy' HBW hb hbw hwz;go_wp2_with fail;refine HC.o.mono ?_;rintro e w9 ⟨rfl,hb9⟩;have HW9:=zT HW hb9;clear hb9 HC;cases b with
   | true=>
    go_wp2_with fail;go_ret;refine⟨by rw[HYY.o];rfl,HB8.o.trans (HW9.o.mono HB8.o.size)⟩
   | false=>
    go_wp2_with fail;go_roundw
    case rel=>exact⟨2,by omega,rfl,zh (by rw[HYY.o];rfl),HW9⟩
    case measure=>decide
  by_cases hk2:k=2
  ·subst hk2;have hix:∀W:World,(Instr.index 108 (.agg #[.func (Fn.func 40) #[] #[.pointer (some ⟨w5.heap.size,0,none⟩)],.func (Fn.func 41) #[] #[.pointer (some ⟨w5.heap.size,0,none⟩)],.func (Fn.func 36) #[] #[.pointer (some ⟨w6.heap.size,0,none⟩),.pointer (some ⟨w1.heap.size,0,none⟩),.pointer (some ⟨w2.heap.size,0,none⟩),.pointer (some ⟨w5.heap.size,0,none⟩)],.func (Fn.func 42) #[] #[.pointer (some ⟨w5.heap.size,0,none⟩)],.func (Fn.func 43) #[] #[.pointer (some ⟨w5.heap.size,0,none⟩),.pointer (some ⟨w.heap.size,0,none⟩)],.func (Fn.func 44) #[] #[.pointer (some ⟨w3.heap.size,0,none⟩),.pointer (some ⟨w5.heap.size,0,none⟩)]]) (.int .i64 2)).run Tryz.prog W = .ok (.func (Fn.func 36) #[] #[.pointer (some ⟨w6.heap.size,0,none⟩),.pointer (some ⟨w1.heap.size,0,none⟩),.pointer (some ⟨w2.heap.size,0,none⟩),.pointer (some ⟨w5.heap.size,0,none⟩)]) W:=fun _=>by kernel_rfl
   have HC:=zh (Zs0 (HFC.o.below HBW) (HR8.o.below HBW) HLN.o HPI.o.1 HPI.o.2.1 HMK.o HMO.o);have hy1:=hy.o;have hy':=hy1;obtain⟨b,hb⟩:=zG (hd:Bool);unfold rowL at hy';simp only[List.drop_succ_cons,List.drop_zero,fstW,Int.toNat]at hy';rw[hb]at HC hy';have HYY:=zh hy';clear hy hy' HBW hb hbw hwz;go_wp2_with fail;refine HC.o.mono ?_;rintro e w9 ⟨rfl,hb9⟩;have HW9:=zT HW hb9;clear hb9 HC;cases b with
   | true=>
    go_wp2_with fail;go_ret;refine⟨by rw[HYY.o];rfl,HB8.o.trans (HW9.o.mono HB8.o.size)⟩
   | false=>
    go_wp2_with fail;go_roundw
    case rel=>exact⟨3,by omega,rfl,zh (by rw[HYY.o];rfl),HW9⟩
    case measure=>decide
  by_cases hk3:k=3
  ·subst hk3;have hix:∀W:World,(Instr.index 108 (.agg #[.func (Fn.func 40) #[] #[.pointer (some ⟨w5.heap.size,0,none⟩)],.func (Fn.func 41) #[] #[.pointer (some ⟨w5.heap.size,0,none⟩)],.func (Fn.func 36) #[] #[.pointer (some ⟨w6.heap.size,0,none⟩),.pointer (some ⟨w1.heap.size,0,none⟩),.pointer (some ⟨w2.heap.size,0,none⟩),.pointer (some ⟨w5.heap.size,0,none⟩)],.func (Fn.func 42) #[] #[.pointer (some ⟨w5.heap.size,0,none⟩)],.func (Fn.func 43) #[] #[.pointer (some ⟨w5.heap.size,0,none⟩),.pointer (some ⟨w.heap.size,0,none⟩)],.func (Fn.func 44) #[] #[.pointer (some ⟨w3.heap.size,0,none⟩),.pointer (some ⟨w5.heap.size,0,none⟩)]]) (.int .i64 3)).run Tryz.prog W = .ok (.func (Fn.func 42) #[] #[.pointer (some ⟨w5.heap.size,0,none⟩)]) W:=fun _=>by kernel_rfl
   have HC:=zh (Zsy (HFC.o.below HBW));have hy1:=hy.o;have hy':=hy1;obtain⟨b,hb⟩:=zG (z.done:Bool);unfold rowL at hy';simp only[List.drop_succ_cons,List.drop_zero,fstW,Int.toNat]at hy';rw[hb]at HC hy';have HYY:=zh hy';clear hy hy' HBW hb hbw hwz;go_wp2_with fail;refine HC.o.mono ?_;rintro e w9 ⟨rfl,hb9⟩;have HW9:=zT HW hb9;clear hb9 HC;cases b with
   | true=>
    go_wp2_with fail;go_ret;refine⟨by rw[HYY.o];rfl,HB8.o.trans (HW9.o.mono HB8.o.size)⟩
   | false=>
    go_wp2_with fail;go_roundw
    case rel=>exact⟨4,by omega,rfl,zh (by rw[HYY.o];rfl),HW9⟩
    case measure=>decide
  by_cases hk4:k=4
  ·subst hk4;have hix:∀W:World,(Instr.index 108 (.agg #[.func (Fn.func 40) #[] #[.pointer (some ⟨w5.heap.size,0,none⟩)],.func (Fn.func 41) #[] #[.pointer (some ⟨w5.heap.size,0,none⟩)],.func (Fn.func 36) #[] #[.pointer (some ⟨w6.heap.size,0,none⟩),.pointer (some ⟨w1.heap.size,0,none⟩),.pointer (some ⟨w2.heap.size,0,none⟩),.pointer (some ⟨w5.heap.size,0,none⟩)],.func (Fn.func 42) #[] #[.pointer (some ⟨w5.heap.size,0,none⟩)],.func (Fn.func 43) #[] #[.pointer (some ⟨w5.heap.size,0,none⟩),.pointer (some ⟨w.heap.size,0,none⟩)],.func (Fn.func 44) #[] #[.pointer (some ⟨w3.heap.size,0,none⟩),.pointer (some ⟨w5.heap.size,0,none⟩)]]) (.int .i64 4)).run Tryz.prog W = .ok (.func (Fn.func 43) #[] #[.pointer (some ⟨w5.heap.size,0,none⟩),.pointer (some ⟨w.heap.size,0,none⟩)]) W:=fun _=>by kernel_rfl
   have HC:=zh (Zs1 (HFC.o.below HBW) (HR8.o.below HBW));have hy1:=hy.o;have hy':=hy1;obtain⟨b,hb⟩:=zG ((decide (z.fans<c.crowd)&&decide (c.span<z.age)):Bool);unfold rowL at hy';simp only[List.drop_succ_cons,List.drop_zero,fstW,Int.toNat]at hy';rw[hb]at HC hy';have HYY:=zh hy';clear hy hy' HBW hb hbw hwz;go_wp2_with fail;refine HC.o.mono ?_;rintro e w9 ⟨rfl,hb9⟩;have HW9:=zT HW hb9;clear hb9 HC;cases b with
   | true=>
    go_wp2_with fail;go_ret;refine⟨by rw[HYY.o];rfl,HB8.o.trans (HW9.o.mono HB8.o.size)⟩
   | false=>
    go_wp2_with fail;go_roundw
    case rel=>exact⟨5,by omega,rfl,zh (by rw[HYY.o];rfl),HW9⟩
    case measure=>decide
  by_cases hk5:k=5
  ·subst hk5;have hix:∀W:World,(Instr.index 108 (.agg #[.func (Fn.func 40) #[] #[.pointer (some ⟨w5.heap.size,0,none⟩)],.func (Fn.func 41) #[] #[.pointer (some ⟨w5.heap.size,0,none⟩)],.func (Fn.func 36) #[] #[.pointer (some ⟨w6.heap.size,0,none⟩),.pointer (some ⟨w1.heap.size,0,none⟩),.pointer (some ⟨w2.heap.size,0,none⟩),.pointer (some ⟨w5.heap.size,0,none⟩)],.func (Fn.func 42) #[] #[.pointer (some ⟨w5.heap.size,0,none⟩)],.func (Fn.func 43) #[] #[.pointer (some ⟨w5.heap.size,0,none⟩),.pointer (some ⟨w.heap.size,0,none⟩)],.func (Fn.func 44) #[] #[.pointer (some ⟨w3.heap.size,0,none⟩),.pointer (some ⟨w5.heap.size,0,none⟩)]]) (.int .i64 5)).run Tryz.prog W = .ok (.func (Fn.func 44) #[] #[.pointer (some ⟨w3.heap.size,0,none⟩),.pointer (some ⟨w5.heap.size,0,none⟩)]) W:=fun _=>by kernel_rfl
   have HC:=zh (Zsz (HFC.o.below HBW) (HRU8.o.below HBW) HPI.o.2.2);have hy1:=hy.o;have hy':=hy1;obtain⟨b,hb⟩:=zG ((!H z):Bool);unfold rowL at hy';simp only[List.drop_succ_cons,List.drop_zero,fstW,Int.toNat]at hy';rw[hb]at HC hy';have HYY:=zh hy';clear hy hy' HBW hb hbw hwz;go_wp2_with fail;refine HC.o.mono ?_;rintro e w9 ⟨rfl,hb9⟩;have HW9:=zT HW hb9;clear hb9 HC;cases b with
   | true=>
    go_wp2_with fail;go_ret;refine⟨by rw[HYY.o];rfl,HB8.o.trans (HW9.o.mono HB8.o.size)⟩
   | false=>
    go_wp2_with fail;go_roundw
    case rel=>exact⟨6,by omega,rfl,zh (by rw[HYY.o];rfl),HW9⟩
    case measure=>decide
  obtain rfl:k=6:=by omega
  have hy':=hy.o;clear HBW;go_wp2_with fail;go_ret;exact⟨by rw[hy'];rfl,HB8.o.trans (HW.o.mono HB8.o.size)⟩
end Go.Proofs.YtphmhbcimhlcjaaGreatDoor
namespace Go.Proofs.YtphmhbcimhlcjaaGreatDoor
open Go.Shelf Go.RowKit Go.Maps
theorem Znw:∀(s:List UInt8) (k:Nat),s[k]? = some 59->(∀j b,j<k->s[j]? = some b->b≠59)->Lib.index s [59]=k
 | [],k,h,_=>by simp at h
 | b::s,0,h,_=>by
  simp at h;subst h;simp[Lib.index]
 | b::s,k+1,h,hn=>by
  have hb:b≠59:=hn 0 b (by omega) rfl;have ih:=Znw s k (by simpa using h) (fun j c hj hc=>hn (j+1) c (by omega) (by simpa using hc));unfold Lib.index;rw[ih];simp[List.isPrefixOf,Ne.symm hb]
theorem Zku:∀(s:List UInt8),(∀(j:Nat) b,s[j]? = some b->b≠59)->Lib.index s [59] = -1
 | [],_=>by simp[Lib.index]
 | b::s,hn=>by
  have hb:b≠59:=hn 0 b rfl;have ih:=Zku s (fun j c hc=>hn (j+1) c (by simpa using hc));unfold Lib.index;rw[ih];simp[List.isPrefixOf,Ne.symm hb]
def semiAt (s:ByteArray)(k:Nat):Prop:=s.data.toList[k]? = some 59/\∀j b,j<k->s.data.toList[j]? = some b->b≠59
theorem Zjh {s:ByteArray}{k:Nat}(h:semiAt s k):headP s=s.extract 0 k/\restP s=s.extract (k+1) s.size/\cutsP s=true:=by
 have hi:=Znw s.data.toList k h.1 h.2;have hk:=(List.getElem?_eq_some_iff.1 h.1).1;unfold headP restP cutsP Lib.cut;rw[hi,if_pos (by omega)];refine⟨?_,?_,rfl⟩
 ·apply ba_eq;simp
 ·apply ba_eq;simp;exact (List.take_of_length_le (by simp)).symm
def semiNo (s:ByteArray):Prop:=∀(j:Nat) b,s.data.toList[j]? = some b->b≠59
theorem Zg9 {s:ByteArray}(h:semiNo s):headP s=s/\restP s=⟨#[]⟩/\cutsP s=false:=by
 have hi:=Zku s.data.toList h;unfold headP restP cutsP Lib.cut;rw[hi,if_neg (by omega)];exact⟨ba_eq (by simp),rfl,rfl⟩
theorem Zfh (s:ByteArray)(w:World)(hs:s.size<=281474976710656) :
  Calls Tryz.prog 136 #[.string s] w fun e w'=>∃r:Int,e = .returned (.int .i64 r)/\((∃k:Nat,r=k/\k<s.size/\semiAt s k)\/(r = -1/\semiNo s))/\w=w':=by
 go_enter Tryz.func136,Tryz.ntmps136;go_wp2;go_loop [3] (fun i=>∃k:Nat,k<=s.size/\i = .int .i64 k/\Hid (∀j b,j<k->s.data.toList[j]? = some b->b≠59)) (fun i=>s.size - (intOf i).toNat)
 case atStart=>exact⟨0,Nat.zero_le _,rfl,zh (fun j b h=>by omega)⟩
 case round=>
  obtain⟨k,hk,rfl,hno⟩:=hrel;by_cases hlt:k<s.size
  ·have HB:Hid (s.data.toList[k]? = some (s[k]'hlt)):=zh (by
    rw[List.getElem?_eq_getElem (by simpa using hlt)]
    rfl)
   by_cases hq:(s[k]'hlt)=59
   ·have HQ:=zh hq;have q1:((s[k]'hlt).toNat:Int)=59:=by rw[hq];rfl
    clear hq;go_wp2
    all_goals first
     | (go_ret;exact⟨(k:Int),rfl,Or.inl ⟨k,rfl,hlt,by rw[HB.o,HQ.o],hno.o⟩,rfl⟩)
     | (exfalso;simp_all)
   ·have HQ:=zh hq
    have q1:¬((s[k]'hlt).toNat:Int)=59:=fun e=>hq (by
     apply UInt8.toNat_inj.1;show (s[k]'hlt).toNat=59;omega)
    clear hq;go_wp2
    all_goals first
     | (go_round
        case rel=>
         refine⟨k+1,by omega,by go_num,zh (fun j b hj hb=>?_)⟩;by_cases e:j=k
         ·subst e;rw[HB.o]at hb;cases hb;exact HQ.o
         ·exact hno.o j b (by omega) hb
        case measure=>simp[intOf];omega)
     | (exfalso;simp_all)
  ·go_wp2;go_ret;refine⟨-1,rfl,Or.inr ⟨rfl,fun j b hb=>hno.o j b ?_ hb⟩,rfl⟩;have:=(List.getElem?_eq_some_iff.1 hb).1;simp at this;omega
theorem Zly (s:ByteArray)(w:World)(hs:s.size<=281474976710656) :
  Calls Tryz.prog 93 #[.string s] w fun e w'=>e = .returned (.string (headP s))/\w=w':=by
 have HP:=zh (Zfh s w hs);go_enter Tryz.func93,Tryz.ntmps93;go_wp2_with fail;refine HP.o.mono ?_;rintro e w1 ⟨r,rfl,hr,rfl⟩;clear HP;rcases hr with ⟨k,rfl,hk,hsm⟩|⟨rfl,hno⟩
 ·have HC:=zh (Zjh hsm).1;have hk8:(0:Int)<=(k:Int):=by omega
  have hk9:(k:Int)<=(s.size:Int):=by omega
  clear hsm;go_wp2_with fail;go_ret;exact⟨by rw[HC.o];rfl,rfl⟩
 ·have HC:=zh (Zg9 hno).1;clear hno;go_wp2_with fail;go_ret;exact⟨by rw[HC.o];rfl,rfl⟩
end Go.Proofs.YtphmhbcimhlcjaaGreatDoor
namespace Go.Proofs.YtphmhbcimhlcjaaGreatDoor
open Go.Shelf Go.RowKit Go.Maps
theorem Zkv (c:UInt8):∀(s:List UInt8) (k:Nat),s[k]? = some c->(∀j b,j<k->s[j]? = some b->b≠c)->Lib.index s [c]=k
 | [],k,h,_=>by simp at h
 | b::s,0,h,_=>by
  simp at h;subst h;simp[Lib.index]
 | b::s,k+1,h,hn=>by
  have hb:b≠c:=hn 0 b (by omega) rfl;have ih:=Zkv c s k (by simpa using h) (fun j d hj hc=>hn (j+1) d (by omega) (by simpa using hc));unfold Lib.index;rw[ih];simp[List.isPrefixOf,Ne.symm hb]
theorem Zid (c:UInt8):∀(s:List UInt8),(∀(j:Nat) b,s[j]? = some b->b≠c)->Lib.index s [c] = -1
 | [],_=>by simp[Lib.index]
 | b::s,hn=>by
  have hb:b≠c:=hn 0 b rfl;have ih:=Zid c s (fun j d hc=>hn (j+1) d (by simpa using hc));unfold Lib.index;rw[ih];simp[List.isPrefixOf,Ne.symm hb]
theorem Znx {u:ByteArray}{k:Nat}(h:u.data.toList[k]? = some 44)(hn:∀j b,j<k->u.data.toList[j]? = some b->b≠44):parts u=u.extract 0 k::parts (u.extract (k+1) u.size):=by
 have hi:Lib.indexB u ⟨#[44]⟩=(k:Int):=Zkv 44 u.data.toList k h hn;unfold parts;rw[Lib.countB_hit u ⟨#[44]⟩ k (by decide) hi,Nat.add_comm 1,Lib.splitB_hit ⟨#[44]⟩ 0 _ u k hi]
 rfl
theorem Zlz {u:ByteArray}(hn:∀(j:Nat) b,u.data.toList[j]? = some b->b≠44):parts u = [u]:=
 Lib.splitB_miss ⟨#[44]⟩ 0 _ u (Zid 44 u.data.toList hn)
theorem Zny {s:ByteArray}{f:Nat}(j:Nat):(s.extract f s.size).data.toList[j]? = s.data.toList[f+j]?:=by
 simp[List.getElem?_take];intro h;omega
theorem Zqm {s:ByteArray}{f k:Nat}(hf:f<=k)(h:s.data.toList[k]? = some 44)(hn:∀j b,f<=j->j<k->s.data.toList[j]? = some b->b≠44):parts (s.extract f s.size)=s.extract f k::parts (s.extract (k+1) s.size):=by
 have hk:=(List.getElem?_eq_some_iff.1 h).1;have hk':k<s.size:=by simpa using hk
 rw[Znx (k:=k - f) (by rw[Zny];rw[show f+(k - f)=k by omega];exact h) (fun j b hj hb=>by rw[Zny]at hb;exact hn (f+j) b (by omega) (by omega) hb)];congr 1
 ·apply ba_eq;simp;omega
 ·congr 1;apply ba_eq;simp;rw[show f+(k - f+1)=k+1 by omega];rw[List.take_of_length_le (by simp;show s.size<=_;omega),List.take_of_length_le (by first|simp|(simp;show s.size<=_;omega))]
theorem Znz {s:ByteArray}{f:Nat}(hn:∀j b,f<=j->s.data.toList[j]? = some b->b≠44):parts (s.extract f s.size) = [s.extract f s.size]:=
 Zlz (fun j b hb=>by rw[Zny]at hb;exact hn (f+j) b (by omega) hb)
def PartsTo (s:ByteArray)(k f:Nat)(out:List ByteArray):Prop:=(k<=s.size->out++parts (s.extract f s.size)=parts s/\∀j b,f<=j->j<k->s.data.toList[j]? = some b->b≠44)/\(k=s.size+1->out=parts s)
theorem PartsTo.start (s:ByteArray):PartsTo s 0 0 []:=⟨fun _=>⟨by rw[List.nil_append];congr 1;apply ba_eq;simp,fun j b _ h=>by omega⟩,fun h=>by omega⟩
theorem PartsTo.no {s:ByteArray}{k f:Nat}{out:List ByteArray}(h:PartsTo s k f out)(hk:k<s.size)(hb:(s[k]'hk)≠44):PartsTo s (k+1) f out:=by
 refine⟨fun _=>⟨(h.1 (by omega)).1,fun j b h1 h2 h3=>?_⟩,fun e=>by omega⟩;by_cases e:j=k
 ·subst e;rw[List.getElem?_eq_getElem (by simpa using hk)]at h3;cases h3;exact hb
 ·exact (h.1 (by omega)).2 j b h1 (by omega) h3
theorem PartsTo.yes {s:ByteArray}{k f:Nat}{out:List ByteArray}(h:PartsTo s k f out)(hf:f<=k)(hk:k<s.size)(hb:(s[k]'hk)=44):PartsTo s (k+1) (k+1) (out++[s.extract f k]):=by
 refine⟨fun _=>⟨?_,fun j b h1 h2=>by omega⟩,fun e=>by omega⟩;have h2:=Zqm (s:=s) hf (by rw[List.getElem?_eq_getElem (by simpa using hk)];exact congrArg some hb) (h.1 (by omega)).2;rw[<-(h.1 (by omega)).1,h2];simp
theorem PartsTo.fin {s:ByteArray}{f:Nat}{out:List ByteArray}(h:PartsTo s s.size f out):PartsTo s (s.size+1) (s.size+1) (out++[s.extract f s.size]):=by
 refine⟨fun h=>by omega,fun _=>?_⟩;have h2:=h.1 (zr _);rw[<-h2.1,Znz (fun j b h1 h3=>h2.2 j b h1 (by simpa using (List.getElem?_eq_some_iff.1 h3).1) h3)]
theorem Zl0 (s:ByteArray)(w:World)(hs:s.size<=1000000) :
  Calls Tryz.prog 137 #[.string s,.int .u8 44] w fun e w'=>∃A c,e = .returned (.slice A (parts s).length c)/\w'.ownsRow w.heap.size 9 1 (.slice A (parts s).length c) (parts s).length ((parts s).map .string)/\Below w.heap.size w w':=by
 obtain⟨i0,hi0,hz0,hz1,hz2⟩:=info_parts Zjy;obtain⟨w1,hw1⟩:=zG (w.alloc (.cells #[] 9));have HO1:Hid (w1.ownsRow w.heap.size 9 1 (.slice (some ⟨w.heap.size,0,none⟩) 0 0) 0 []):=zh (by rw[<-hw1];exact Zhl _ _ _);have HB1:=zA hw1;go_enter Tryz.func137,Tryz.ntmps137;go_wp2_with fail;go_loopw [5,6,7] (fun v fr i wr=>∃(k f m c5:Nat) (A5:Option Addr) (out:List ByteArray),k<=s.size+1/\f<=k/\i = .int .i64 k/\fr = .int .i64 f/\v = .slice A5 m c5/\Hid (out.length=m)/\m<=k/\Hid (wr.ownsRow w.heap.size 9 1 (.slice A5 m c5) m (out.map .string))/\Hid (PartsTo s k f out)/\Hid (Below w.heap.size w wr)) (fun _ _ i _=>s.size+1 - (intOf i).toNat)
 case atStart=>exact⟨0,0,0,0,_,[],Nat.zero_le _,zr _,rfl,rfl,rfl,zh rfl,zr _,HO1,zh (PartsTo.start s),HB1⟩
 case round=>
  clear hw1 HO1 HB1;obtain⟨k,f,m,c5,A5,out,hk,hfk,rfl,rfl,rfl,hm,hmk,hrow,hpt,hbw⟩:=hrel;have hwz:=hbw.o.size;have hf8:(0:Int)<=(f:Int):=by omega
  have hf9:(f:Int)<=(k:Int):=by omega
  have hk8:(0:Int)<=(k:Int):=by omega
  by_cases hlt:k<s.size
  ·have hk9:(k:Int)<(s.size:Int):=by omega
   have hk7:(k:Int)<=(s.size:Int):=by omega
   have hk6:((k:Int) == (s.size:Int))=false:=by rw[Bool.eq_false_iff];intro e;have:=beq_iff_eq.1 e;omega
   by_cases hq:(s[k]'hlt)=44
   ·have HPN:=zh (hpt.o.yes hfk hlt hq);have q1:((s[k]'hlt).toNat:Int)=44:=by rw[hq];rfl
    clear hq
    go_wp2_with (first
     | (at_builtin;refine Zaa _ rfl _ _ 62 rfl w.heap.size 9 i0 _ 1 16 Tryz.underlying62 hi0 hz0 hz1 hz2 rfl (by omega) (.slice A5 m c5) m _ rfl (hrow.o.alloc _) (wr.heap.size+1) (some ⟨wr.heap.size,0,none⟩) 1 1 [.string (s.extract f k)] rfl (Zit wr (s.extract f k) _) (fun h=>by cases h) (fun u hu=>by simp at hu;subst hu;rfl) (by unfold maxLen;omega) (by omega) (by simp;omega) ?_;intro v7 w7 ho7 hg7 hv7))
    obtain⟨A7,c7,hr7⟩:=own_shape ho7;subst hr7;go_wp2_with fail;go_roundw
    case rel=>
     refine⟨k+1,k+1,m+1,c7,A7,out++[s.extract f k],by omega,by omega,by go_num,by go_num,rfl,zh (by rw[List.length_append,hm.o];rfl),by omega,zh (by rw[List.map_append];exact ho7),HPN,zh ((hbw.o.alloc hwz _).grown hg7 (by simp;omega) (fun j hj=>(hrow.o.lt _ hj).1))⟩
    case measure=>simp[intOf];omega
   ·have HPN:=zh (hpt.o.no hlt hq);have q1:(((s[k]'hlt).toNat:Int) == 44)=false:=by
     rw[Bool.eq_false_iff];intro e;have:=beq_iff_eq.1 e;exact hq (by apply UInt8.toNat_inj.1;show (s[k]'hlt).toNat=44;omega)
    clear hq;go_wp2_with fail;go_roundw
    case rel=>exact⟨k+1,f,m,c5,A5,out,by omega,by omega,by go_num,rfl,rfl,hm,by omega,hrow,HPN,hbw⟩
    case measure=>simp[intOf];omega
  ·by_cases hke:k=s.size
   ·have hk6:((k:Int) == (s.size:Int))=true:=beq_iff_eq.2 (by omega);have hk7:(k:Int)<=(s.size:Int):=by omega
    have HPN:Hid (PartsTo s (k+1) (k+1) (out++[s.extract f k])):=zh (by rw[hke]at hpt ⊢;exact hpt.o.fin);clear hke
    go_wp2_with (first
     | (at_builtin;refine Zaa _ rfl _ _ 62 rfl w.heap.size 9 i0 _ 1 16 Tryz.underlying62 hi0 hz0 hz1 hz2 rfl (by omega) (.slice A5 m c5) m _ rfl (hrow.o.alloc _) (wr.heap.size+1) (some ⟨wr.heap.size,0,none⟩) 1 1 [.string (s.extract f k)] rfl (Zit wr (s.extract f k) _) (fun h=>by cases h) (fun u hu=>by simp at hu;subst hu;rfl) (by unfold maxLen;omega) (by omega) (by simp;omega) ?_;intro v7 w7 ho7 hg7 hv7))
    obtain⟨A7,c7,hr7⟩:=own_shape ho7;subst hr7;go_wp2_with fail;go_roundw
    case rel=>
     refine⟨k+1,k+1,m+1,c7,A7,out++[s.extract f k],by omega,by omega,by go_num,by go_num,rfl,zh (by rw[List.length_append,hm.o];rfl),by omega,zh (by rw[List.map_append];exact ho7),HPN,zh ((hbw.o.alloc hwz _).grown hg7 (by simp;omega) (fun j hj=>(hrow.o.lt _ hj).1))⟩
    case measure=>simp[intOf];omega
   ·have HPE:Hid (out=parts s):=zh (hpt.o.2 (by omega));have hk7:¬(k:Int)<=(s.size:Int):=by omega
    go_wp2_with fail;go_ret;rw[<-HPE.o,hm.o];exact⟨A5,c5,rfl,hrow.o,hbw.o⟩
theorem Zqn {s:ByteArray}{k:Nat}(h:semiAt s k)(hk:k<s.size):evTags s=if k+1=s.size then [] else parts (s.extract (k+1) s.size):=by
 unfold evTags;rw[(Zjh h).2.1];by_cases e:k+1=s.size
 ·rw[if_pos e,if_pos];apply ba_eq;simp[e]
 ·rw[if_neg e,if_neg];intro h2;have:=congrArg ByteArray.size h2;rw[ByteArray.size_extract,show (⟨#[]⟩:ByteArray).size=0 from rfl]at this;omega
theorem Zn0 {s:ByteArray}(h:semiNo s):evTags s = []:=by
 unfold evTags;rw[(Zg9 h).2.1,if_pos rfl]
theorem Zn1 (s:ByteArray)(w:World)(hs:s.size<=1000000) :
  Calls Tryz.prog 95 #[.string s] w fun e w'=>∃A c,e = .returned (.slice A (evTags s).length c)/\w'.ownsRow w.heap.size 9 1 (.slice A (evTags s).length c) (evTags s).length ((evTags s).map .string)/\Below w.heap.size w w':=by
 have HP:=zh (Zfh s w (by omega));have HO1:=zh (Zhl w 9 1);have HB1:Hid (Below w.heap.size w (w.alloc (.cells #[] 9))):=zh ((Below.refl _ _).alloc (zr _) _);go_enter Tryz.func95,Tryz.ntmps95;go_wp2_with fail;refine HP.o.mono ?_;rintro e w1 ⟨r,rfl,hr,rfl⟩;clear HP;rcases hr with ⟨k,rfl,hk,hsm⟩|⟨rfl,hno⟩
 ·have hk8:(0:Int)<=(k:Int):=by omega
  have hk7:decide ((k:Int)<0)=false:=decide_eq_false (by omega);have HT:=zh (Zqn hsm hk);clear hsm;by_cases hke:k+1=s.size
  ·have hk6:((k:Int) == (s.size:Int) - 1)=true:=beq_iff_eq.2 (by omega);have HE:Hid (evTags s = []):=zh (by rw[HT.o,if_pos hke]);clear HT;go_wp2_with fail;go_ret;rw[HE.o];exact⟨_,_,rfl,HO1.o,HB1.o⟩
  ·have hk6:((k:Int) == (s.size:Int) - 1)=false:=by rw[Bool.eq_false_iff];intro e;have:=beq_iff_eq.1 e;omega
   have HE:Hid (evTags s=parts (s.extract (k+1) s.size)):=zh (by rw[HT.o,if_neg hke]);have HPA:=zh (Zl0 (s.extract (k+1) s.size) w (by rw[ByteArray.size_extract];omega));have hk5:(0:Int)<=(k:Int)+1:=by omega
   have hk4:(k:Int)+1<=(s.size:Int):=by omega
   clear HT;go_wp2_with fail;refine HPA.o.mono ?_;rintro e w2 ⟨A,c,rfl,ho,hb⟩;have HO:=zh ho;have HB:=zh hb;clear HPA ho hb;rw[<-HE.o]at HO ⊢;go_wp2_with fail;go_ret;exact⟨A,c,rfl,HO.o,HB.o⟩
 ·have HE:=zh (Zn0 hno);clear hno;go_wp2_with fail;go_ret;rw[HE.o];exact⟨_,_,rfl,HO1.o,HB1.o⟩
end Go.Proofs.YtphmhbcimhlcjaaGreatDoor
namespace Go.Proofs.YtphmhbcimhlcjaaGreatDoor
open Go.Shelf Go.RowKit Go.Maps
theorem Zda (n lo hi:Int)(w:World) :
  Calls Tryz.prog 63 #[.int .i64 n,.int .i64 lo,.int .i64 hi] w fun e w'=>e = .returned (.bool (decide (lo<=n/\n<=hi)))/\w=w':=by
 by_cases h1:lo<=n
 ·by_cases h2:n<=hi
  ·have HD:Hid (decide (lo<=n/\n<=hi)=true):=zh (decide_eq_true ⟨h1,h2⟩);go_enter Tryz.func63,Tryz.ntmps63;go_wp2_with fail;go_ret;exact⟨Zab (by first|(rw[HD.o];done)|rfl|simp_all),rfl⟩
  ·have HD:Hid (decide (lo<=n/\n<=hi)=false):=zh (decide_eq_false (fun h=>h2 h.2));have d2:decide (n<=hi)=false:=decide_eq_false h2;go_enter Tryz.func63,Tryz.ntmps63;go_wp2_with fail;go_ret;exact⟨Zab (by first|(rw[HD.o];done)|rfl|simp_all),rfl⟩
 ·have HD:Hid (decide (lo<=n/\n<=hi)=false):=zh (decide_eq_false (fun h=>h1 h.1));have d1:decide (lo<=n)=false:=decide_eq_false h1;go_enter Tryz.func63,Tryz.ntmps63;go_wp2_with fail;go_ret;exact⟨Zab (by first|(rw[HD.o];done)|rfl|simp_all),rfl⟩
end Go.Proofs.YtphmhbcimhlcjaaGreatDoor

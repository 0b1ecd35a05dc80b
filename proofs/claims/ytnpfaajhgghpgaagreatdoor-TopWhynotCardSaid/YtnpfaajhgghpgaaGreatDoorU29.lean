/- A part of the joined base. -/
import Derived.Test.YtnpfaajhgghpgaaGreatDoorU28
set_option linter.unusedVariables false
set_option maxHeartbeats 8000000
set_option maxRecDepth 100000
namespace Go.Proofs.YtnpfaajhgghpgaaGreatDoor
open Go.Shelf Go.RowKit Go.Maps
open Ru (Fz fzA fzX FAC Zed ROf)
theorem Zql:(Tryz.prog.info? 104).map (·.size)=some 6:=by kernel_rfl
theorem of_any (w:World)(wb ct cr:Nat)(c:Cfg)(E:List Ev)(p i:ByteArray)(now:Int)(q:Option Addr)(H:Fz->Bool)(h:WrAt w wb ct cr c E)(hr:RuleH w (.pointer q) H)(hall:∀e∈E,EvOk e)(hlen:E.length<=1000)(hp:p.size<=300)(hi:i.size<=300)(hnow:InR now)(htg:(fzOf E p i now).tags.size<=300) :
  Calls Tryz.prog 11 #[.pointer (some ⟨wb,0,none⟩),.string p,.string i,.int .i64 now,.pointer q] w fun e w'=>e = .returned (.int .i64 (whyP (fzOf E p i now) (hidP E p i now) c.crowd c.span (H (fzOf E p i now)):Nat))/\Below w.heap.size w w':=by
 obtain⟨z,hz⟩:=zG (fzOf E p i now);obtain⟨hd,hhd⟩:=zG (hidP E p i now);have HMK:Hid ((hidO (rowsW E) p i).getD false=false->decide (mutO (rowsW E) p z.maker=some true)=hd):=zh (fun h0=>by rw[<-hhd,<-hz];unfold hidP;rw[h0];rfl);have HMO:Hid ((hidO (rowsW E) p i).getD false=true->true=hd):=zh (fun h0=>by rw[<-hhd];unfold hidP;rw[h0];rfl);obtain⟨w1,hw1⟩:=zG (w.alloc (.cells #[.pointer (some ⟨wb,0,none⟩)] 38));obtain⟨w2,hw2⟩:=zG (w1.alloc (.cells #[.string p] 9));obtain⟨w3,hw3⟩:=zG (w2.alloc (.cells #[.string i] 9));obtain⟨w4,hw4⟩:=zG (w3.alloc (.cells #[.pointer q] 42));have hb1:Below w.heap.size w w1:=by rw[<-hw1];exact (Below.refl _ _).alloc (zr _) _
 have hb2:Below w1.heap.size w1 w2:=by rw[<-hw2];exact (Below.refl _ _).alloc (zr _) _
 have hb3:Below w2.heap.size w2 w3:=by rw[<-hw3];exact (Below.refl _ _).alloc (zr _) _
 have hb4:Below w3.heap.size w3 w4:=by rw[<-hw4];exact (Below.refl _ _).alloc (zr _) _
 have x1:Blk w1 w.heap.size 38 #[.pointer (some ⟨wb,0,none⟩)]:=by rw[<-hw1];exact Blk.new _ _ _
 have x2:Blk w2 w1.heap.size 9 #[.string p]:=by rw[<-hw2];exact Blk.new _ _ _
 have x3:Blk w3 w2.heap.size 9 #[.string i]:=by rw[<-hw3];exact Blk.new _ _ _
 have x4:Blk w4 w3.heap.size 42 #[.pointer q]:=by rw[<-hw4];exact Blk.new _ _ _
 have hb34:Below w2.heap.size w2 w4:=hb3.trans (hb4.mono hb3.size);have hb24:Below w1.heap.size w1 w4:=hb2.trans (hb34.mono hb2.size);have hb14:Below w.heap.size w w4:=hb1.trans (hb24.mono hb1.size);have HX1:Hid (Blk w4 w.heap.size 38 #[.pointer (some ⟨wb,0,none⟩)]):=zh ((hb24.block _ x1.lt).trans x1);have HX2:Hid (Blk w4 w1.heap.size 9 #[.string p]):=zh ((hb34.block _ x2.lt).trans x2);have HX3:Hid (Blk w4 w2.heap.size 9 #[.string i]):=zh ((hb4.block _ x3.lt).trans x3);have HX4:Hid (Blk w4 w3.heap.size 42 #[.pointer q]):=zh x4;have HB4:=zh hb14;have HFA:=zh (Znv w4 wb ct cr c E p i now (h.below hb14) hall hlen hp hi hnow);unfold FactsR at HFA;rw[hz]at HFA htg;have HR4:=zh (h.below hb14);have HRU4:=zh (hr.below hb14);have HLN:=zh hlen;have HPI:=zh (show p.size<=300/\i.size<=300/\z.tags.size<=300 from ⟨hp,hi,htg⟩);have HY:Hid (whyP z hd c.crowd c.span (H z)=fstW (rowL z hd c.crowd c.span (H z)) 0):=zh (Zqk _ _ _ _ _);have y0:=HX1.o.cell 0;have y1:=HX2.o.cell 0;have y2:=HX3.o.cell 0;rw[hz,hhd];obtain⟨Y,hYY⟩:=zG (whyP z hd c.crowd c.span (H z));rw[hYY]at HY;rw[hYY];clear hYY;clear h hr hall hlen hp hi hnow htg hb1 hb2 hb3 hb4 x1 x2 x3 x4 hb34 hb24 hb14 hz hhd;unfold fzA at HFA;go_enter Tryz.func11,Tryz.ntmps11;go_wp2_with fail;refine HFA.o.mono ?_;rintro e w5 ⟨rfl,hb5⟩;obtain⟨w6,hw6⟩:=zG (w5.alloc (.cells #[.string z.name,.string z.maker,.string z.tags,.int .i64 z.stock,.int .i64 z.price,.int .i64 z.born,.bool z.listed,.int .i64 z.now,.int .i64 z.age,.int .i64 z.fans,.bool z.follows,.bool z.done] 97));have hb6:Below w5.heap.size w5 w6:=by rw[<-hw6];exact (Below.refl _ _).alloc (zr _) _
 have x5:Blk w6 w5.heap.size 97 (fzA z):=by rw[<-hw6];exact Blk.new _ _ _
 have hb46:Below w4.heap.size w4 w6:=hb5.trans (hb6.mono hb5.size);have HB6:Hid (Below w4.heap.size w4 w6):=zh hb46;have HX6:=zh x5;have y0:w6.cell? ⟨w.heap.size,0,none⟩=some (.pointer (some ⟨wb,0,none⟩)):=(hb46.cell (p:=⟨w.heap.size,0,none⟩) HX1.o.lt).trans (HX1.o.cell 0);have HC6:=zh (Zbt (HR4.o.below hb46));clear hb5 hb6 x5 hb46 HFA;go_wp2_with fail;refine HC6.o.mono ?_;rintro e w6' ⟨rfl,rfl⟩;obtain⟨w7,hw7⟩:=zG (w6.alloc (.cells #[.pointer (some ⟨cr,0,none⟩)] 69));have hb7:Below w6.heap.size w6 w7:=by rw[<-hw7];exact (Below.refl _ _).alloc (zr _) _
 have x7:Blk w7 w6.heap.size 69 #[.pointer (some ⟨cr,0,none⟩)]:=by rw[<-hw7];exact Blk.new _ _ _
 obtain⟨wa,hwa⟩:=zG (w7.alloc (.cells #[.nilFunc,.nilFunc,.nilFunc,.nilFunc,.nilFunc,.nilFunc] 104));have hb8:Below w7.heap.size w7 wa:=by rw[<-hwa];exact (Below.refl _ _).alloc (zr _) _
 have HXA:Hid (Blk wa w7.heap.size 104 #[.nilFunc,.nilFunc,.nilFunc,.nilFunc,.nilFunc,.nilFunc]):=zB hwa;have HB7A:=zh hb8;have HB67:=zh hb7;have HX7:=zh x7;clear hb7 hb8 x7 HC6 y0 y1 y2
 go_upto_region 5 with (first
  | (refine Zad _ rfl 104 (.tmp 14) (.tmp 31) rfl 0 #[.func (Fn.func 31) #[] #[.pointer (some ⟨w5.heap.size,0,none⟩)],.func (Fn.func 32) #[] #[.pointer (some ⟨w5.heap.size,0,none⟩)],.func (Fn.func 27) #[] #[.pointer (some ⟨w6.heap.size,0,none⟩),.pointer (some ⟨w1.heap.size,0,none⟩),.pointer (some ⟨w2.heap.size,0,none⟩),.pointer (some ⟨w5.heap.size,0,none⟩)],.func (Fn.func 33) #[] #[.pointer (some ⟨w5.heap.size,0,none⟩)],.func (Fn.func 34) #[] #[.pointer (some ⟨w5.heap.size,0,none⟩),.pointer (some ⟨w.heap.size,0,none⟩)],.func (Fn.func 35) #[] #[.pointer (some ⟨w3.heap.size,0,none⟩),.pointer (some ⟨w5.heap.size,0,none⟩)]] rfl rfl HXA.o (by show 0+6<=6;omega) Zql (by simp[Value.oneCell']) ?_;intro w8 hb8 hk8 hs8)
  | fail)
 have hkb8:Below w7.heap.size w7 w8:=HB7A.o.trans (hk8.toBelow (fun i hi=>by rw[hi];exact zr _) HB7A.o.size);have hb68:Below w6.heap.size w6 w8:=HB67.o.trans (hkb8.mono HB67.o.size);have hb48:Below w4.heap.size w4 w8:=HB6.o.trans (hb68.mono HB6.o.size)
 have HFC:Hid (FcAt w8 w.heap.size w1.heap.size w2.heap.size w3.heap.size w6.heap.size w5.heap.size wb cr p i (.pointer q) z):=zh (by
  refine⟨(hb48.cell (p:=⟨w.heap.size,0,none⟩) HX1.o.lt).trans (HX1.o.cell 0),(hb48.cell (p:=⟨w1.heap.size,0,none⟩) HX2.o.lt).trans (HX2.o.cell 0),(hb48.cell (p:=⟨w2.heap.size,0,none⟩) HX3.o.lt).trans (HX3.o.cell 0),(hb48.cell (p:=⟨w3.heap.size,0,none⟩) HX4.o.lt).trans (HX4.o.cell 0),(hkb8.cell (p:=⟨w6.heap.size,0,none⟩) HX7.o.lt).trans (HX7.o.cell 0),(hb68.block _ HX6.o.lt).trans HX6.o,?_⟩;have:=hb48.size;have:=hkb8.size;have:=HX1.o.lt;have:=HX2.o.lt;have:=HX3.o.lt;have:=HX4.o.lt;have:=HX7.o.lt;omega)
 have HR8:=zh (HR4.o.below hb48);have HRU8:=zh (HRU4.o.below hb48);have HB8:=zT HB4 hb48;simp only[putA,xq1,xq2,xq3]at hb8;have a0:=hb8.cell 0;have a1:=hb8.cell 1;have a2:=hb8.cell 2;have a3:=hb8.cell 3;have a4:=hb8.cell 4;have a5:=hb8.cell 5;simp at a0 a1 a2 a3 a4 a5;clear hb8 hk8 hs8 hkb8 hb68 hb48 hw1 hw2 hw3 hw4 hw6 hw7 hwa;go_wp2_with fail;clear a0 a1 a2 a3 a4 a5;go_loopw [33] (fun i wr=>∃k:Int,(0<=k/\k<=6)/\i = .int .i64 k/\Hid (Y=fstW ((rowL z hd c.crowd c.span (H z)).drop k.toNat) k.toNat)/\Hid (Below w8.heap.size w8 wr)) (fun i _=>6 - (intOf i).toNat)
 case atStart=>exact⟨0,by omega,rfl,HY,zh (Below.refl _ _)⟩
 case round=>
  obtain⟨k,hk,rfl,hy,hbw⟩:=hrel;have HBW:=hbw.o;have HW:=zh HBW;have hwz:=HBW.size;have HZ:=zh (HB8.o.size);by_cases hk0:k=0
  ·subst hk0;have hix:∀W:World,(Instr.index 104 (.agg #[.func (Fn.func 31) #[] #[.pointer (some ⟨w5.heap.size,0,none⟩)],.func (Fn.func 32) #[] #[.pointer (some ⟨w5.heap.size,0,none⟩)],.func (Fn.func 27) #[] #[.pointer (some ⟨w6.heap.size,0,none⟩),.pointer (some ⟨w1.heap.size,0,none⟩),.pointer (some ⟨w2.heap.size,0,none⟩),.pointer (some ⟨w5.heap.size,0,none⟩)],.func (Fn.func 33) #[] #[.pointer (some ⟨w5.heap.size,0,none⟩)],.func (Fn.func 34) #[] #[.pointer (some ⟨w5.heap.size,0,none⟩),.pointer (some ⟨w.heap.size,0,none⟩)],.func (Fn.func 35) #[] #[.pointer (some ⟨w3.heap.size,0,none⟩),.pointer (some ⟨w5.heap.size,0,none⟩)]]) (.int .i64 0)).run Tryz.prog W = .ok (.func (Fn.func 31) #[] #[.pointer (some ⟨w5.heap.size,0,none⟩)]) W:=fun _=>by kernel_rfl
   have HC:=zh (Zsw (HFC.o.below HBW));have hy1:=hy.o;have hy':=hy1;obtain⟨b,hb⟩:=zG ((!z.listed):Bool);unfold rowL at hy';simp only[List.drop_zero,fstW,Int.toNat]at hy';rw[hb]at HC hy';have HYY:=zh hy';clear hy hy' HBW hb hbw hwz;go_wp2_with fail;refine HC.o.mono ?_;rintro e w9 ⟨rfl,hb9⟩;have HW9:=zT HW hb9;clear hb9 HC;cases b with
   | true=>
    go_wp2_with fail;go_ret;refine⟨by rw[HYY.o];rfl,HB8.o.trans (HW9.o.mono HB8.o.size)⟩
   | false=>
    go_wp2_with fail;go_roundw
    case rel=>exact⟨1,by omega,rfl,zh (by rw[HYY.o];rfl),HW9⟩
    case measure=>decide
  by_cases hk1:k=1
  ·subst hk1;have hix:∀W:World,(Instr.index 104 (.agg #[.func (Fn.func 31) #[] #[.pointer (some ⟨w5.heap.size,0,none⟩)],.func (Fn.func 32) #[] #[.pointer (some ⟨w5.heap.size,0,none⟩)],.func (Fn.func 27) #[] #[.pointer (some ⟨w6.heap.size,0,none⟩),.pointer (some ⟨w1.heap.size,0,none⟩),.pointer (some ⟨w2.heap.size,0,none⟩),.pointer (some ⟨w5.heap.size,0,none⟩)],.func (Fn.func 33) #[] #[.pointer (some ⟨w5.heap.size,0,none⟩)],.func (Fn.func 34) #[] #[.pointer (some ⟨w5.heap.size,0,none⟩),.pointer (some ⟨w.heap.size,0,none⟩)],.func (Fn.func 35) #[] #[.pointer (some ⟨w3.heap.size,0,none⟩),.pointer (some ⟨w5.heap.size,0,none⟩)]]) (.int .i64 1)).run Tryz.prog W = .ok (.func (Fn.func 32) #[] #[.pointer (some ⟨w5.heap.size,0,none⟩)]) W:=fun _=>by kernel_rfl
   have HC:=zh (Zsx (HFC.o.below HBW));have hy1:=hy.o;have hy':=hy1;obtain⟨b,hb⟩:=zG (decide (z.stock=0):Bool);unfold rowL at hy';simp only[List.drop_succ_cons,List.drop_zero,fstW,Int.toNat]at hy';rw[hb]at HC hy';have HYY:=zh hy';clear hy hy' HBW hb hbw hwz;go_wp2_with fail;refine HC.o.mono ?_;rintro e w9 ⟨rfl,hb9⟩;have HW9:=zT HW hb9;clear hb9 HC;cases b with
   | true=>
    go_wp2_with fail;go_ret;refine⟨by rw[HYY.o];rfl,HB8.o.trans (HW9.o.mono HB8.o.size)⟩
   | false=>
    go_wp2_with fail;go_roundw
    case rel=>exact⟨2,by omega,rfl,zh (by rw[HYY.o];rfl),HW9⟩
    case measure=>decide
  by_cases hk2:k=2
  ·subst hk2;have hix:∀W:World,(Instr.index 104 (.agg #[.func (Fn.func 31) #[] #[.pointer (some ⟨w5.heap.size,0,none⟩)],.func (Fn.func 32) #[] #[.pointer (some ⟨w5.heap.size,0,none⟩)],.func (Fn.func 27) #[] #[.pointer (some ⟨w6.heap.size,0,none⟩),.pointer (some ⟨w1.heap.size,0,none⟩),.pointer (some ⟨w2.heap.size,0,none⟩),.pointer (some ⟨w5.heap.size,0,none⟩)],.func (Fn.func 33) #[] #[.pointer (some ⟨w5.heap.size,0,none⟩)],.func (Fn.func 34) #[] #[.pointer (some ⟨w5.heap.size,0,none⟩),.pointer (some ⟨w.heap.size,0,none⟩)],.func (Fn.func 35) #[] #[.pointer (some ⟨w3.heap.size,0,none⟩),.pointer (some ⟨w5.heap.size,0,none⟩)]]) (.int .i64 2)).run Tryz.prog W = .ok (.func (Fn.func 27) #[] #[.pointer (some ⟨w6.heap.size,0,none⟩),.pointer (some ⟨w1.heap.size,0,none⟩),.pointer (some ⟨w2.heap.size,0,none⟩),.pointer (some ⟨w5.heap.size,0,none⟩)]) W:=fun _=>by kernel_rfl
   have HC:=zh (Zs0 (HFC.o.below HBW) (HR8.o.below HBW) HLN.o HPI.o.1 HPI.o.2.1 HMK.o HMO.o);have hy1:=hy.o;have hy':=hy1;obtain⟨b,hb⟩:=zG (hd:Bool);unfold rowL at hy';simp only[List.drop_succ_cons,List.drop_zero,fstW,Int.toNat]at hy';rw[hb]at HC hy';have HYY:=zh hy';clear hy hy' HBW hb hbw hwz;go_wp2_with fail;refine HC.o.mono ?_;rintro e w9 ⟨rfl,hb9⟩;have HW9:=zT HW hb9;clear hb9 HC;cases b with
   | true=>
    go_wp2_with fail;go_ret;refine⟨by rw[HYY.o];rfl,HB8.o.trans (HW9.o.mono HB8.o.size)⟩
   | false=>
    go_wp2_with fail;go_roundw
    case rel=>exact⟨3,by omega,rfl,zh (by rw[HYY.o];rfl),HW9⟩
    case measure=>decide
  by_cases hk3:k=3
  ·subst hk3;have hix:∀W:World,(Instr.index 104 (.agg #[.func (Fn.func 31) #[] #[.pointer (some ⟨w5.heap.size,0,none⟩)],.func (Fn.func 32) #[] #[.pointer (some ⟨w5.heap.size,0,none⟩)],.func (Fn.func 27) #[] #[.pointer (some ⟨w6.heap.size,0,none⟩),.pointer (some ⟨w1.heap.size,0,none⟩),.pointer (some ⟨w2.heap.size,0,none⟩),.pointer (some ⟨w5.heap.size,0,none⟩)],.func (Fn.func 33) #[] #[.pointer (some ⟨w5.heap.size,0,none⟩)],.func (Fn.func 34) #[] #[.pointer (some ⟨w5.heap.size,0,none⟩),.pointer (some ⟨w.heap.size,0,none⟩)],.func (Fn.func 35) #[] #[.pointer (some ⟨w3.heap.size,0,none⟩),.pointer (some ⟨w5.heap.size,0,none⟩)]]) (.int .i64 3)).run Tryz.prog W = .ok (.func (Fn.func 33) #[] #[.pointer (some ⟨w5.heap.size,0,none⟩)]) W:=fun _=>by kernel_rfl
   have HC:=zh (Zsy (HFC.o.below HBW));have hy1:=hy.o;have hy':=hy1;obtain⟨b,hb⟩:=zG (z.done:Bool);unfold rowL at hy';simp only[List.drop_succ_cons,List.drop_zero,fstW,Int.toNat]at hy';rw[hb]at HC hy';have HYY:=zh hy';clear hy hy' HBW hb hbw hwz;go_wp2_with fail;refine HC.o.mono ?_;rintro e w9 ⟨rfl,hb9⟩;have HW9:=zT HW hb9;clear hb9 HC;cases b with
   | true=>
    go_wp2_with fail;go_ret;refine⟨by rw[HYY.o];rfl,HB8.o.trans (HW9.o.mono HB8.o.size)⟩
   | false=>
    go_wp2_with fail;go_roundw
    case rel=>exact⟨4,by omega,rfl,zh (by rw[HYY.o];rfl),HW9⟩
    case measure=>decide
  by_cases hk4:k=4
  ·subst hk4;have hix:∀W:World,(Instr.index 104 (.agg #[.func (Fn.func 31) #[] #[.pointer (some ⟨w5.heap.size,0,none⟩)],.func (Fn.func 32) #[] #[.pointer (some ⟨w5.heap.size,0,none⟩)],.func (Fn.func 27) #[] #[.pointer (some ⟨w6.heap.size,0,none⟩),.pointer (some ⟨w1.heap.size,0,none⟩),.pointer (some ⟨w2.heap.size,0,none⟩),.pointer (some ⟨w5.heap.size,0,none⟩)],.func (Fn.func 33) #[] #[.pointer (some ⟨w5.heap.size,0,none⟩)],.func (Fn.func 34) #[] #[.pointer (some ⟨w5.heap.size,0,none⟩),.pointer (some ⟨w.heap.size,0,none⟩)],.func (Fn.func 35) #[] #[.pointer (some ⟨w3.heap.size,0,none⟩),.pointer (some ⟨w5.heap.size,0,none⟩)]]) (.int .i64 4)).run Tryz.prog W = .ok (.func (Fn.func 34) #[] #[.pointer (some ⟨w5.heap.size,0,none⟩),.pointer (some ⟨w.heap.size,0,none⟩)]) W:=fun _=>by kernel_rfl
   have HC:=zh (Zs1 (HFC.o.below HBW) (HR8.o.below HBW));have hy1:=hy.o;have hy':=hy1;obtain⟨b,hb⟩:=zG ((decide (z.fans<c.crowd)&&decide (c.span<z.age)):Bool);unfold rowL at hy';simp only[List.drop_succ_cons,List.drop_zero,fstW,Int.toNat]at hy';rw[hb]at HC hy';have HYY:=zh hy';clear hy hy' HBW hb hbw hwz;go_wp2_with fail;refine HC.o.mono ?_;rintro e w9 ⟨rfl,hb9⟩;have HW9:=zT HW hb9;clear hb9 HC;cases b with
   | true=>
    go_wp2_with fail;go_ret;refine⟨by rw[HYY.o];rfl,HB8.o.trans (HW9.o.mono HB8.o.size)⟩
   | false=>
    go_wp2_with fail;go_roundw
    case rel=>exact⟨5,by omega,rfl,zh (by rw[HYY.o];rfl),HW9⟩
    case measure=>decide
  by_cases hk5:k=5
  ·subst hk5;have hix:∀W:World,(Instr.index 104 (.agg #[.func (Fn.func 31) #[] #[.pointer (some ⟨w5.heap.size,0,none⟩)],.func (Fn.func 32) #[] #[.pointer (some ⟨w5.heap.size,0,none⟩)],.func (Fn.func 27) #[] #[.pointer (some ⟨w6.heap.size,0,none⟩),.pointer (some ⟨w1.heap.size,0,none⟩),.pointer (some ⟨w2.heap.size,0,none⟩),.pointer (some ⟨w5.heap.size,0,none⟩)],.func (Fn.func 33) #[] #[.pointer (some ⟨w5.heap.size,0,none⟩)],.func (Fn.func 34) #[] #[.pointer (some ⟨w5.heap.size,0,none⟩),.pointer (some ⟨w.heap.size,0,none⟩)],.func (Fn.func 35) #[] #[.pointer (some ⟨w3.heap.size,0,none⟩),.pointer (some ⟨w5.heap.size,0,none⟩)]]) (.int .i64 5)).run Tryz.prog W = .ok (.func (Fn.func 35) #[] #[.pointer (some ⟨w3.heap.size,0,none⟩),.pointer (some ⟨w5.heap.size,0,none⟩)]) W:=fun _=>by kernel_rfl
   have HC:=zh (Zsz (HFC.o.below HBW) (HRU8.o.below HBW) HPI.o.2.2);have hy1:=hy.o;have hy':=hy1;obtain⟨b,hb⟩:=zG ((!H z):Bool);unfold rowL at hy';simp only[List.drop_succ_cons,List.drop_zero,fstW,Int.toNat]at hy';rw[hb]at HC hy';have HYY:=zh hy';clear hy hy' HBW hb hbw hwz;go_wp2_with fail;refine HC.o.mono ?_;rintro e w9 ⟨rfl,hb9⟩;have HW9:=zT HW hb9;clear hb9 HC;cases b with
   | true=>
    go_wp2_with fail;go_ret;refine⟨by rw[HYY.o];rfl,HB8.o.trans (HW9.o.mono HB8.o.size)⟩
   | false=>
    go_wp2_with fail;go_roundw
    case rel=>exact⟨6,by omega,rfl,zh (by rw[HYY.o];rfl),HW9⟩
    case measure=>decide
  obtain rfl:k=6:=by omega
  have hy':=hy.o;clear HBW;go_wp2_with fail;go_ret;exact⟨by rw[hy'];rfl,HB8.o.trans (HW.o.mono HB8.o.size)⟩
end Go.Proofs.YtnpfaajhgghpgaaGreatDoor
namespace Go.Proofs.YtnpfaajhgghpgaaGreatDoor
open Go.Shelf Go.RowKit Go.Maps
theorem Znw:∀(s:List UInt8) (k:Nat),s[k]? = some 59->(∀j b,j<k->s[j]? = some b->b≠59)->Lib.index s [59]=k
 | [],k,h,_=>by simp at h
 | b::s,0,h,_=>by
  simp at h;subst h;simp[Lib.index]
 | b::s,k+1,h,hn=>by
  have hb:b≠59:=hn 0 b (by omega) rfl;have ih:=Znw s k (by simpa using h) (fun j c hj hc=>hn (j+1) c (by omega) (by simpa using hc));unfold Lib.index;rw[ih];simp[List.isPrefixOf,Ne.symm hb]
theorem Zku:∀(s:List UInt8),(∀(j:Nat) b,s[j]? = some b->b≠59)->Lib.index s [59] = -1
 | [],_=>by simp[Lib.index]
 | b::s,hn=>by
  have hb:b≠59:=hn 0 b rfl;have ih:=Zku s (fun j c hc=>hn (j+1) c (by simpa using hc));unfold Lib.index;rw[ih];simp[List.isPrefixOf,Ne.symm hb]
def semiAt (s:ByteArray)(k:Nat):Prop:=s.data.toList[k]? = some 59/\∀j b,j<k->s.data.toList[j]? = some b->b≠59
theorem Zjh {s:ByteArray}{k:Nat}(h:semiAt s k):headP s=s.extract 0 k/\restP s=s.extract (k+1) s.size/\cutsP s=true:=by
 have hi:=Znw s.data.toList k h.1 h.2;have hk:=(List.getElem?_eq_some_iff.1 h.1).1;unfold headP restP cutsP Lib.cut;rw[hi,if_pos (by omega)];refine⟨?_,?_,rfl⟩
 ·apply ba_eq;simp
 ·apply ba_eq;simp;exact (List.take_of_length_le (by simp)).symm
def semiNo (s:ByteArray):Prop:=∀(j:Nat) b,s.data.toList[j]? = some b->b≠59
theorem Zg9 {s:ByteArray}(h:semiNo s):headP s=s/\restP s=⟨#[]⟩/\cutsP s=false:=by
 have hi:=Zku s.data.toList h;unfold headP restP cutsP Lib.cut;rw[hi,if_neg (by omega)];exact⟨ba_eq (by simp),rfl,rfl⟩
end Go.Proofs.YtnpfaajhgghpgaaGreatDoor
namespace Go.Proofs.YtnpfaajhgghpgaaGreatDoor
open Go.Shelf Go.RowKit Go.Maps
theorem Zkv (c:UInt8):∀(s:List UInt8) (k:Nat),s[k]? = some c->(∀j b,j<k->s[j]? = some b->b≠c)->Lib.index s [c]=k
 | [],k,h,_=>by simp at h
 | b::s,0,h,_=>by
  simp at h;subst h;simp[Lib.index]
 | b::s,k+1,h,hn=>by
  have hb:b≠c:=hn 0 b (by omega) rfl;have ih:=Zkv c s k (by simpa using h) (fun j d hj hc=>hn (j+1) d (by omega) (by simpa using hc));unfold Lib.index;rw[ih];simp[List.isPrefixOf,Ne.symm hb]
theorem Zid (c:UInt8):∀(s:List UInt8),(∀(j:Nat) b,s[j]? = some b->b≠c)->Lib.index s [c] = -1
 | [],_=>by simp[Lib.index]
 | b::s,hn=>by
  have hb:b≠c:=hn 0 b rfl;have ih:=Zid c s (fun j d hc=>hn (j+1) d (by simpa using hc));unfold Lib.index;rw[ih];simp[List.isPrefixOf,Ne.symm hb]
theorem Znx {u:ByteArray}{k:Nat}(h:u.data.toList[k]? = some 44)(hn:∀j b,j<k->u.data.toList[j]? = some b->b≠44):parts u=u.extract 0 k::parts (u.extract (k+1) u.size):=by
 have hi:Lib.indexB u ⟨#[44]⟩=(k:Int):=Zkv 44 u.data.toList k h hn;unfold parts;rw[Lib.countB_hit u ⟨#[44]⟩ k (by decide) hi,Nat.add_comm 1,Lib.splitB_hit ⟨#[44]⟩ 0 _ u k hi]
 rfl
theorem Zlz {u:ByteArray}(hn:∀(j:Nat) b,u.data.toList[j]? = some b->b≠44):parts u = [u]:=
 Lib.splitB_miss ⟨#[44]⟩ 0 _ u (Zid 44 u.data.toList hn)
theorem Zny {s:ByteArray}{f:Nat}(j:Nat):(s.extract f s.size).data.toList[j]? = s.data.toList[f+j]?:=by
 simp[List.getElem?_take];intro h;omega
theorem Zqm {s:ByteArray}{f k:Nat}(hf:f<=k)(h:s.data.toList[k]? = some 44)(hn:∀j b,f<=j->j<k->s.data.toList[j]? = some b->b≠44):parts (s.extract f s.size)=s.extract f k::parts (s.extract (k+1) s.size):=by
 have hk:=(List.getElem?_eq_some_iff.1 h).1;have hk':k<s.size:=by simpa using hk
 rw[Znx (k:=k - f) (by rw[Zny];rw[show f+(k - f)=k by omega];exact h) (fun j b hj hb=>by rw[Zny]at hb;exact hn (f+j) b (by omega) (by omega) hb)];congr 1
 ·apply ba_eq;simp;omega
 ·congr 1;apply ba_eq;simp;rw[show f+(k - f+1)=k+1 by omega];rw[List.take_of_length_le (by simp;show s.size<=_;omega),List.take_of_length_le (by first|simp|(simp;show s.size<=_;omega))]
theorem Znz {s:ByteArray}{f:Nat}(hn:∀j b,f<=j->s.data.toList[j]? = some b->b≠44):parts (s.extract f s.size) = [s.extract f s.size]:=
 Zlz (fun j b hb=>by rw[Zny]at hb;exact hn (f+j) b (by omega) hb)
def PartsTo (s:ByteArray)(k f:Nat)(out:List ByteArray):Prop:=(k<=s.size->out++parts (s.extract f s.size)=parts s/\∀j b,f<=j->j<k->s.data.toList[j]? = some b->b≠44)/\(k=s.size+1->out=parts s)
theorem PartsTo.start (s:ByteArray):PartsTo s 0 0 []:=⟨fun _=>⟨by rw[List.nil_append];congr 1;apply ba_eq;simp,fun j b _ h=>by omega⟩,fun h=>by omega⟩
theorem PartsTo.no {s:ByteArray}{k f:Nat}{out:List ByteArray}(h:PartsTo s k f out)(hk:k<s.size)(hb:(s[k]'hk)≠44):PartsTo s (k+1) f out:=by
 refine⟨fun _=>⟨(h.1 (by omega)).1,fun j b h1 h2 h3=>?_⟩,fun e=>by omega⟩;by_cases e:j=k
 ·subst e;rw[List.getElem?_eq_getElem (by simpa using hk)]at h3;cases h3;exact hb
 ·exact (h.1 (by omega)).2 j b h1 (by omega) h3
theorem PartsTo.yes {s:ByteArray}{k f:Nat}{out:List ByteArray}(h:PartsTo s k f out)(hf:f<=k)(hk:k<s.size)(hb:(s[k]'hk)=44):PartsTo s (k+1) (k+1) (out++[s.extract f k]):=by
 refine⟨fun _=>⟨?_,fun j b h1 h2=>by omega⟩,fun e=>by omega⟩;have h2:=Zqm (s:=s) hf (by rw[List.getElem?_eq_getElem (by simpa using hk)];exact congrArg some hb) (h.1 (by omega)).2;rw[<-(h.1 (by omega)).1,h2];simp
theorem PartsTo.fin {s:ByteArray}{f:Nat}{out:List ByteArray}(h:PartsTo s s.size f out):PartsTo s (s.size+1) (s.size+1) (out++[s.extract f s.size]):=by
 refine⟨fun h=>by omega,fun _=>?_⟩;have h2:=h.1 (zr _);rw[<-h2.1,Znz (fun j b h1 h3=>h2.2 j b h1 (by simpa using (List.getElem?_eq_some_iff.1 h3).1) h3)]
theorem Zqn {s:ByteArray}{k:Nat}(h:semiAt s k)(hk:k<s.size):evTags s=if k+1=s.size then [] else parts (s.extract (k+1) s.size):=by
 unfold evTags;rw[(Zjh h).2.1];by_cases e:k+1=s.size
 ·rw[if_pos e,if_pos];apply ba_eq;simp[e]
 ·rw[if_neg e,if_neg];intro h2;have:=congrArg ByteArray.size h2;rw[ByteArray.size_extract,show (⟨#[]⟩:ByteArray).size=0 from rfl]at this;omega
theorem Zn0 {s:ByteArray}(h:semiNo s):evTags s = []:=by
 unfold evTags;rw[(Zg9 h).2.1,if_pos rfl]
end Go.Proofs.YtnpfaajhgghpgaaGreatDoor
namespace Go.Proofs.YtnpfaajhgghpgaaGreatDoor
open Go.Shelf Go.RowKit Go.Maps
end Go.Proofs.YtnpfaajhgghpgaaGreatDoor

/- A part of the joined base. -/
import Derived.Test.YthdmpcnnbminlaaGreatDoorV30
set_option linter.unusedVariables false
set_option maxHeartbeats 8000000
set_option maxRecDepth 100000
namespace Go.Proofs.YthdmpcnnbminlaaGreatDoor
open Go.Shelf Go.RowKit Go.Maps
open Ru (Fz fzA FAC Zed)
theorem Zkt:(Tryz.prog.info? 38).map (·.size)=some 12:=by kernel_rfl
theorem Zcq:(Tryz.prog.info? 36).map (·.size)=some 7:=by kernel_rfl
def FactsR (E:List Ev) (p i:ByteArray) (now:Int) (w:World) (e:Ending) (w':World):Prop:=e = .returned (.agg (fzA (fzOf E p i now)))∧Below w.heap.size w w'
theorem Zfg {f:ByteArray→Bool} {ks:List ByteArray} (h:IsNames f ks) (x:ByteArray):memB x ks=f x:=by
 rw[Bool.eq_iff_iff,Zbb]
 exact h.2 x
theorem Znv (w:World) (wb ct cr:Nat) (c:Cfg) (E:List Ev) (p i:ByteArray) (now:Int) (h:WrAt w wb ct cr c E) (hall:∀e∈E,EvOk e) (hlen:E.length≤1000) (hp:p.size≤300) (hi:i.size≤300) (hnow:InR now) :
  Calls Tryz.prog 19 #[.pointer (some ⟨wb,0,none⟩),.string p,.string i,.int .i64 now] w (FactsR E p i now w):=by
 obtain⟨X,hX⟩:∃X,(Ct.atP (thgs E) i now).getD Ct.it0=X:=⟨_,rfl⟩
 obtain⟨ok,hok⟩:∃ok,(Ct.atP (thgs E) i now).isSome=ok:=⟨_,rfl⟩
 obtain⟨fans,hfans⟩:∃z:Int,(fansN (rowsW E) i:Int)=z:=⟨_,rfl⟩
 obtain⟨done,hdone⟩:∃z,doneB (rowsW E) p i=z:=⟨_,rfl⟩
 obtain⟨fol,hfol⟩:∃z,decide (folO (rowsW E) p X.maker=some true)=z:=⟨_,rfl⟩
 have HZ:Hid (fzOf E p i now=⟨X.name,X.maker,X.tags,X.stock,X.price,X.born,X.listed,now,if ok then now - X.born else 0,fans,ok&&fol,done⟩):=zh (by unfold fzOf;rw[hX,hok,hfans,hdone,hfol])
 have HAGE:Hid (ok=true→IntKind.i64.wrap (now - X.born)=now - X.born):=zh (fun ho=>by
  cases ha:Ct.atP (thgs E) i now with
  | none=>rw[ha]at hok;rw[←hok]at ho;cases ho
  | some x=>
   rw[ha]at hX
   obtain rfl:x=X:=hX
   exact Ztx (m:=300) (fun e he=>(hall e he).1) (fun e he=>(hall e he).2) hi ha hnow.2)
 have HOFF:Hid (ok=false→X=Ct.it0):=zh (fun ho=>by
  cases ha:Ct.atP (thgs E) i now with
  | none=>rw[ha]at hX;exact hX.symm
  | some x=>rw[ha]at hok;rw[←hok]at ho;cases ho)
 have hrl:=Zcs E
 have htl:=Zdo E
 obtain⟨w1,hw1⟩:∃w1,w.alloc (.cells #[.string ⟨#[]⟩,.string ⟨#[]⟩,.string ⟨#[]⟩,.int .i64 0,.int .i64 0,.int .i64 0,.bool false,.int .i64 0,.int .i64 0,.int .i64 0,.bool false,.bool false] 38)=w1:=⟨_,rfl⟩
 have HX1:Hid (Blk w1 w.heap.size 38 #[.string ⟨#[]⟩,.string ⟨#[]⟩,.string ⟨#[]⟩,.int .i64 0,.int .i64 0,.int .i64 0,.bool false,.int .i64 0,.int .i64 0,.int .i64 0,.bool false,.bool false]):=zh (by rw[←hw1];exact Blk.new _ _ _)
 have HB1:Hid (Below w.heap.size w w1):=zh (by rw[←hw1];exact (Below.refl _ _).alloc (zr _) _)
 have HR1:=zh (h.below HB1.o)
 have HC1:=zh (Zbt HR1.o)
 obtain⟨U,hU⟩:=HR1.o.crw
 have HF1:=zh (Zhy cr (halfP c.half) U (rowsW E) i w1 hU (by unfold maxLen;omega))
 rw[hfans]at HF1
 have HIS:=zh (show p.size≤300∧i.size≤300 from ⟨hp,hi⟩)
 have HD:Hid (∀W,Below w1.heap.size w1 W→Calls Tryz.prog 37 #[.pointer (some ⟨cr,0,none⟩),.string p,.string i] W fun e w'=>e = .returned (.bool done)∧Below W.heap.size W w'):=zh (fun W hb=>by rw[←hdone];exact Zmx cr (halfP c.half) U (rowsW E) p i W (hU.below hb) (by unfold maxLen;omega) (by unfold maxLen;omega))
 have HAT:Hid (∀W,Below w1.heap.size w1 W→Calls Tryz.prog 32 #[.pointer (some ⟨ct,0,none⟩),.string i,.int .i64 now] W fun e w'=>e = .returned (.tuple #[.agg #[.string X.name,.string X.maker,.string X.tags,.int .i64 X.stock,.int .i64 X.price,.int .i64 X.born,.bool X.listed],.bool ok])∧Below W.heap.size W w'):=zh (fun W hb=>by
  obtain⟨F,hF⟩:=(HR1.o.below hb).cat
  have:=Ct.Zj9 ct F (thgs E) i now W hF (by omega) (by omega)
  unfold Ct.toldP Ct.itA at this
  rw[hX,hok]at this
  exact this)
 have HFO:Hid (∀W,Below w1.heap.size w1 W→Calls Tryz.prog 61 #[.pointer (some ⟨cr,0,none⟩),.string p] W fun e w'=>∃(A:Option Addr) (c:Nat) (ks:List ByteArray),e = .returned (.slice A ks.length c)∧memB X.maker ks=fol∧RowIn w' w'.heap.size 1 A ks.length (ks.map .string)∧ks.length≤1000∧Below W.heap.size W w'):=zh (fun W hb=>by
  refine (Zi0 cr (halfP c.half) U (rowsW E) p W (hU.below hb) (by unfold maxLen;omega) (by omega)).mono ?_
  rintro e w' ⟨A,c,ks,rfl,h1,h2,h3,h4⟩
  exact⟨A,c,ks,rfl,by rw[Zfg h1,hfol],RowIn.of_own h2,h3,h4⟩)
 clear h hall hlen hp hi hnow hU hX hok hfans hdone hfol hrl htl
 go_enter Tryz.func19,Tryz.ntmps19
 go_wp2_with fail
 refine HC1.o.mono ?_
 rintro e w2 ⟨rfl,rfl⟩
 go_wp2_with fail
 refine HF1.o.mono ?_
 rintro e w2 ⟨rfl,hb2⟩
 have HB2:=zh hb2
 have HC2:=zh (Zbt (HR1.o.below hb2))
 clear hb2 HF1 HC1
 go_wp2_with fail
 refine HC2.o.mono ?_
 rintro e w3 ⟨rfl,rfl⟩
 have HC:=zh (HD.o w2 HB2.o)
 go_wp2_with fail
 refine HC.o.mono ?_
 rintro e w3 ⟨rfl,hb3⟩
 have HB3:Hid (Below w1.heap.size w1 w3):=zh (HB2.o.trans (hb3.mono HB2.o.size))
 obtain⟨gb,hgb⟩:∃gb,w3.heap.size=gb:=⟨_,rfl⟩
 obtain⟨w4,hw4⟩:∃w4,w3.alloc (.cells #[.string ⟨#[]⟩,.string ⟨#[]⟩,.string ⟨#[]⟩,.int .i64 0,.int .i64 0,.int .i64 0,.bool false,.int .i64 now,.int .i64 0,.int .i64 fans,.bool false,.bool done] 38)=w4:=⟨_,rfl⟩
 have HX4:Hid (Blk w4 gb 38 #[.string ⟨#[]⟩,.string ⟨#[]⟩,.string ⟨#[]⟩,.int .i64 0,.int .i64 0,.int .i64 0,.bool false,.int .i64 now,.int .i64 0,.int .i64 fans,.bool false,.bool done]):=zh (by rw[←hw4,←hgb];exact Blk.new _ _ _)
 have HB4:Hid (Below w1.heap.size w1 w4):=zh (by rw[←hw4];exact HB3.o.alloc HB3.o.size _)
 have HGB:Hid (w1.heap.size≤gb):=zh (by rw[←hgb];exact HB3.o.size)
 have HCA:=zh (Zcy (HR1.o.below HB4.o))
 have HHG:=zh hgb
 clear hb3 HC2 HC HD HB2 hgb
 go_wp2_with fail
 rw[HHG.o]
 refine HCA.o.mono ?_
 rintro e w5 ⟨rfl,rfl⟩
 have HC:=zh (HAT.o w4 HB4.o)
 go_wp2_with fail
 refine HC.o.mono ?_
 rintro e w5 ⟨rfl,hb5⟩
 have HB5:Hid (Below w1.heap.size w1 w5):=zh (HB4.o.trans (hb5.mono HB4.o.size))
 have HX5:Hid (Blk w5 gb 38 #[.string ⟨#[]⟩,.string ⟨#[]⟩,.string ⟨#[]⟩,.int .i64 0,.int .i64 0,.int .i64 0,.bool false,.int .i64 now,.int .i64 0,.int .i64 fans,.bool false,.bool done]):=zh ((hb5.block _ HX4.o.lt).trans HX4.o)
 have HGL:=zh (show gb<w5.heap.size from HX5.o.lt)
 obtain⟨w6,hw6⟩:∃w6,w5.alloc (.cells #[.string X.name,.string X.maker,.string X.tags,.int .i64 X.stock,.int .i64 X.price,.int .i64 X.born,.bool X.listed] 36)=w6:=⟨_,rfl⟩
 have HX6:Hid (Blk w6 gb 38 #[.string ⟨#[]⟩,.string ⟨#[]⟩,.string ⟨#[]⟩,.int .i64 0,.int .i64 0,.int .i64 0,.bool false,.int .i64 now,.int .i64 0,.int .i64 fans,.bool false,.bool done]):=zh (by rw[←hw6];exact HX5.o.alloc _)
 have HI6:Hid (Blk w6 w5.heap.size 36 #[.string X.name,.string X.maker,.string X.tags,.int .i64 X.stock,.int .i64 X.price,.int .i64 X.born,.bool X.listed]):=zh (by rw[←hw6];exact Blk.new _ _ _)
 have HB6:Hid (Below w1.heap.size w1 w6):=zh (by rw[←hw6];exact HB5.o.alloc HB5.o.size _)
 clear hb5 HC HCA hw4 HX4 HB4 HX5 HB5 HHG hw1
 cases ok with
 | false=>
  obtain rfl:=HOFF.o rfl
  have y0:w6.cell? ⟨gb,0,none⟩=some (.string ⟨#[]⟩):=HX6.o.cell 0
  have y1:w6.cell? ⟨gb,1,none⟩=some (.string ⟨#[]⟩):=HX6.o.cell 1
  have y2:w6.cell? ⟨gb,2,none⟩=some (.string ⟨#[]⟩):=HX6.o.cell 2
  have y3:w6.cell? ⟨gb,3,none⟩=some (.int .i64 0):=HX6.o.cell 3
  have y4:w6.cell? ⟨gb,4,none⟩=some (.int .i64 0):=HX6.o.cell 4
  have y5:w6.cell? ⟨gb,5,none⟩=some (.int .i64 0):=HX6.o.cell 5
  have y6:w6.cell? ⟨gb,6,none⟩=some (.bool false):=HX6.o.cell 6
  have y7:w6.cell? ⟨gb,7,none⟩=some (.int .i64 now):=HX6.o.cell 7
  have y8:w6.cell? ⟨gb,8,none⟩=some (.int .i64 0):=HX6.o.cell 8
  have y9:w6.cell? ⟨gb,9,none⟩=some (.int .i64 fans):=HX6.o.cell 9
  have y10:w6.cell? ⟨gb,10,none⟩=some (.bool false):=HX6.o.cell 10
  have y11:w6.cell? ⟨gb,11,none⟩=some (.bool done):=HX6.o.cell 11
  have HY6:Hid (Blk w6 w.heap.size 38 #[.string ⟨#[]⟩,.string ⟨#[]⟩,.string ⟨#[]⟩,.int .i64 0,.int .i64 0,.int .i64 0,.bool false,.int .i64 0,.int .i64 0,.int .i64 0,.bool false,.bool false]):=zh ((HB6.o.block _ HX1.o.lt).trans HX1.o)
  clear HGL
  go_wp2_with (first
   | (refine Zad _ rfl 38 (.tmp 8) (.tmp 33) rfl 0 #[.string ⟨#[]⟩,.string ⟨#[]⟩,.string ⟨#[]⟩,.int .i64 0,.int .i64 0,.int .i64 0,.bool false,.int .i64 now,.int .i64 0,.int .i64 fans,.bool false,.bool done] rfl rfl HY6.o (by show 0+12≤12;omega) Zkt (by simp[Value.oneCell']) ?_;intro w7 hb7 hk7 hs7)
   | fail)
  (try simp only[Exit.inBlock,Exit.then])
  have hx:Blk w7 w.heap.size 38 (fzA (fzOf E p i now)):=by rw[HZ.o];exact hb7
  refine bodyPost_ret (Zc7 (rb:=w.heap.size) rfl rfl (Zed hx)) rfl ?_
  exact⟨rfl,(HB1.o.trans (HB6.o.mono HB1.o.size)).trans (hk7.toBelow (fun i hi=>by rw[hi];exact zr _) (Nat.le_trans HB1.o.size HB6.o.size))⟩
 | true=>
  have hage:=HAGE.o rfl
  have HY6:Hid (Blk w6 w.heap.size 38 #[.string ⟨#[]⟩,.string ⟨#[]⟩,.string ⟨#[]⟩,.int .i64 0,.int .i64 0,.int .i64 0,.bool false,.int .i64 0,.int .i64 0,.int .i64 0,.bool false,.bool false]):=zh ((HB6.o.block _ HX1.o.lt).trans HX1.o)
  have hne:gb≠w5.heap.size:=by have:=HGL.o;omega
  have hwg:w.heap.size<gb:=by have:=HX1.o.lt;have:=HGB.o;omega
  have z0:w6.cell? ⟨w5.heap.size,0,none⟩=some (.string X.name):=HI6.o.cell 0
  have z1:w6.cell? ⟨w5.heap.size,1,none⟩=some (.string X.maker):=HI6.o.cell 1
  have z2:w6.cell? ⟨w5.heap.size,2,none⟩=some (.string X.tags):=HI6.o.cell 2
  have z3:w6.cell? ⟨w5.heap.size,3,none⟩=some (.int .i64 X.stock):=HI6.o.cell 3
  have z4:w6.cell? ⟨w5.heap.size,4,none⟩=some (.int .i64 X.price):=HI6.o.cell 4
  have z5:w6.cell? ⟨w5.heap.size,5,none⟩=some (.int .i64 X.born):=HI6.o.cell 5
  have z6:w6.cell? ⟨w5.heap.size,6,none⟩=some (.bool X.listed):=HI6.o.cell 6
  go_upto_region 6 with (first
   | (refine Zad _ rfl 36 (.tmp 35) (.tmp 34) rfl 0 #[.string X.name,.string X.maker,.string X.tags,.int .i64 X.stock,.int .i64 X.price,.int .i64 X.born,.bool X.listed] rfl rfl HX6.o (by show 0+7≤12;omega) Zcq (by simp[Value.oneCell']) ?_;intro w7 hb7 hk7 hs7)
   | fail)
  simp only[putA,xq1,xq2,xq3]at hb7
  have HX7:Hid (Blk w7 gb 38 #[.string X.name,.string X.maker,.string X.tags,.int .i64 X.stock,.int .i64 X.price,.int .i64 X.born,.bool X.listed,.int .i64 now,.int .i64 0,.int .i64 fans,.bool false,.bool done]):=zh hb7
  have HI7:Hid (Blk w7 w5.heap.size 36 #[.string X.name,.string X.maker,.string X.tags,.int .i64 X.stock,.int .i64 X.price,.int .i64 X.born,.bool X.listed]):=zh (HI6.o.kept hk7 (fun e=>hne e.symm))
  have HY7:Hid (Blk w7 w.heap.size 38 #[.string ⟨#[]⟩,.string ⟨#[]⟩,.string ⟨#[]⟩,.int .i64 0,.int .i64 0,.int .i64 0,.bool false,.int .i64 0,.int .i64 0,.int .i64 0,.bool false,.bool false]):=zh (HY6.o.kept hk7 (by omega))
  have HB7:Hid (Below w1.heap.size w1 w7):=zh (HB6.o.trans (hk7.toBelow (fun i hi=>by rw[hi];exact HGB.o) HB6.o.size))
  have y5:w7.cell? ⟨w5.heap.size,5,none⟩=some (.int .i64 X.born):=HI7.o.cell 5
  have y8:w7.cell? ⟨gb,8,none⟩=some (.int .i64 0):=HX7.o.cell 8
  have g8:w7.frozen? ⟨gb,8,none⟩=false:=HX7.o.frozen 8
  clear hb7 hk7 hs7 HX6 HI6 HY6 z0 z1 z2 z3 z4 z5 z6
  go_upto_region 7 with fail
  obtain⟨w8,hw8⟩:∃z,w7.setCell ⟨gb,8,none⟩ (.int .i64 (now - X.born))=z:=⟨_,rfl⟩
  rw[hw8]
  have k78:Kept (fun q=>q=gb) w7 w8:=by rw[←hw8];exact Za8
  have HX8:Hid (Blk w8 gb 38 #[.string X.name,.string X.maker,.string X.tags,.int .i64 X.stock,.int .i64 X.price,.int .i64 X.born,.bool X.listed,.int .i64 now,.int .i64 (now - X.born),.int .i64 fans,.bool false,.bool done]):=zh (by rw[←hw8];exact HX7.o.set_ 8 _)
  have HI8:Hid (Blk w8 w5.heap.size 36 #[.string X.name,.string X.maker,.string X.tags,.int .i64 X.stock,.int .i64 X.price,.int .i64 X.born,.bool X.listed]):=zh (HI7.o.kept k78 (fun e=>hne e.symm))
  have HY8:Hid (Blk w8 w.heap.size 38 #[.string ⟨#[]⟩,.string ⟨#[]⟩,.string ⟨#[]⟩,.int .i64 0,.int .i64 0,.int .i64 0,.bool false,.int .i64 0,.int .i64 0,.int .i64 0,.bool false,.bool false]):=zh (HY7.o.kept k78 (by omega))
  have HB8:Hid (Below w1.heap.size w1 w8):=zh (HB7.o.trans (k78.toBelow (fun i hi=>by rw[hi];exact HGB.o) HB7.o.size))
  clear hw8 k78 y5 y8 g8 HX7 HI7 HY7
  obtain⟨wd,hwd⟩:∃z,w8.drew=z:=⟨_,rfl⟩
  have HBD:Hid (Below w8.heap.size w8 wd):=zh (by rw[←hwd];exact below_drew (Below.refl _ _))
  have HSM:Hid (∀W,Below w8.heap.size w8 W→World.cell? W ⟨w5.heap.size,1,none⟩=some (.string X.maker)):=zh (fun W hb=>by
   have h1:Blk W w5.heap.size 36 #[.string X.name,.string X.maker,.string X.tags,.int .i64 X.stock,.int .i64 X.price,.int .i64 X.born,.bool X.listed]:=(hb.block _ HI8.o.lt).trans HI8.o
   exact h1.cell 1)
  have HC1:=zh (Zbt (HR1.o.below (HB8.o.trans (HBD.o.mono HB8.o.size))))
  have HFC:=zh (HFO.o wd (HB8.o.trans (HBD.o.mono HB8.o.size)))
  refine Zaq (fun W=>World.cell? W ⟨w5.heap.size,1,none⟩=some (.string X.maker)) [(0,1),(2,1),(4,1),(5,1),(1,2),(3,2),(6,2),(7,1),(8,3)] (by kernel_rfl) (by kernel_rfl) (by rw[hwd];exact HSM.o wd HBD.o) ?_
  simp only[planNL,List.getElem?_cons_zero,List.getElem?_cons_succ]
  rw[hwd]
  clear hwd
  repeat (first|(refine Zan _ (by rfl) (fun W hW=>by (have y1:=hW;go_simp;try with_reducible rfl)) ?_;simp only[Act.put,xq1,xq2,xq3])|(refine planN_off (by rfl) ?_;simp only[Act.put,xq1,xq2,xq3])|(refine planN_on0 _ (by rfl) (fun W hW=>by (go_simp;try with_reducible rfl)) ?_;simp only[Act.put,xq1,xq2,xq3]))
  refine Za4 ?_
  go_wp2_with fail
  refine HC1.o.mono ?_
  rintro e w9 ⟨rfl,rfl⟩
  go_wp2_with fail
  refine⟨HSM.o wd HBD.o,?_⟩
  refine Za4 ?_
  go_wp2_with fail
  refine HFC.o.mono ?_
  rintro e w9 ⟨A9,c9,ks,rfl,h1,h2,h3,h4⟩
  have HB9:Hid (Below w8.heap.size w8 w9):=zh (HBD.o.trans (h4.mono HBD.o.size))
  have HCT:=zh (contains_any w9 w9.heap.size A9 ks ks.length c9 X.maker rfl h2 (by omega))
  rw[h1]at HCT
  clear h1 h2 h3 h4 HFC HC1
  go_wp2_with fail
  refine⟨HSM.o w9 HB9.o,?_⟩
  refine Za4 ?_
  go_wp2_with fail
  refine HCT.o.mono ?_
  rintro e w10 ⟨rfl,rfl⟩
  have HX9:Hid (Blk w9 gb 38 #[.string X.name,.string X.maker,.string X.tags,.int .i64 X.stock,.int .i64 X.price,.int .i64 X.born,.bool X.listed,.int .i64 now,.int .i64 (now - X.born),.int .i64 fans,.bool false,.bool done]):=zh ((HB9.o.block _ HX8.o.lt).trans HX8.o)
  have HY9:Hid (Blk w9 w.heap.size 38 #[.string ⟨#[]⟩,.string ⟨#[]⟩,.string ⟨#[]⟩,.int .i64 0,.int .i64 0,.int .i64 0,.bool false,.int .i64 0,.int .i64 0,.int .i64 0,.bool false,.bool false]):=zh ((HB9.o.block _ HY8.o.lt).trans HY8.o)
  have y10:w9.cell? ⟨gb,10,none⟩=some (.bool false):=HX9.o.cell 10
  have g10:w9.frozen? ⟨gb,10,none⟩=false:=HX9.o.frozen 10
  clear HCT HX8 HY8
  go_wp2_with fail
  refine⟨HSM.o w9 HB9.o,?_⟩
  repeat (first|(refine Zan _ (by rfl) (fun W hW=>by (have y1:=hW;go_simp;try with_reducible rfl)) ?_;simp only[Act.put,xq1,xq2,xq3])|(refine planN_off (by rfl) ?_;simp only[Act.put,xq1,xq2,xq3])|(refine planN_on0 _ (by rfl) (fun W hW=>by (go_simp;try with_reducible rfl)) ?_;simp only[Act.put,xq1,xq2,xq3]))
  refine Zai ?_
  go_wp2_with fail
  obtain⟨w11,hw11⟩:∃z,w9.setCell ⟨gb,10,none⟩ (.bool fol)=z:=⟨_,rfl⟩
  rw[hw11]
  have k9:Kept (fun q=>q=gb) w9 w11:=by rw[←hw11];exact Za8
  have HX11:Hid (Blk w11 gb 38 #[.string X.name,.string X.maker,.string X.tags,.int .i64 X.stock,.int .i64 X.price,.int .i64 X.born,.bool X.listed,.int .i64 now,.int .i64 (now - X.born),.int .i64 fans,.bool fol,.bool done]):=zh (by rw[←hw11];exact HX9.o.set_ 10 _)
  have HY11:Hid (Blk w11 w.heap.size 38 #[.string ⟨#[]⟩,.string ⟨#[]⟩,.string ⟨#[]⟩,.int .i64 0,.int .i64 0,.int .i64 0,.bool false,.int .i64 0,.int .i64 0,.int .i64 0,.bool false,.bool false]):=zh (HY9.o.kept k9 (by omega))
  have HB11:Hid (Below w1.heap.size w1 w11):=zh ((HB8.o.trans (HB9.o.mono HB8.o.size)).trans (k9.toBelow (fun i hi=>by rw[hi];exact HGB.o) (HB8.o.trans (HB9.o.mono HB8.o.size)).size))
  clear hw11 k9 y10 g10 HX9 HY9
  have y0:w11.cell? ⟨gb,0,none⟩=some (.string X.name):=HX11.o.cell 0
  have y1:w11.cell? ⟨gb,1,none⟩=some (.string X.maker):=HX11.o.cell 1
  have y2:w11.cell? ⟨gb,2,none⟩=some (.string X.tags):=HX11.o.cell 2
  have y3:w11.cell? ⟨gb,3,none⟩=some (.int .i64 X.stock):=HX11.o.cell 3
  have y4:w11.cell? ⟨gb,4,none⟩=some (.int .i64 X.price):=HX11.o.cell 4
  have y5:w11.cell? ⟨gb,5,none⟩=some (.int .i64 X.born):=HX11.o.cell 5
  have y6:w11.cell? ⟨gb,6,none⟩=some (.bool X.listed):=HX11.o.cell 6
  have y7:w11.cell? ⟨gb,7,none⟩=some (.int .i64 now):=HX11.o.cell 7
  have y8:w11.cell? ⟨gb,8,none⟩=some (.int .i64 (now - X.born)):=HX11.o.cell 8
  have y9:w11.cell? ⟨gb,9,none⟩=some (.int .i64 fans):=HX11.o.cell 9
  have y10:w11.cell? ⟨gb,10,none⟩=some (.bool fol):=HX11.o.cell 10
  have y11:w11.cell? ⟨gb,11,none⟩=some (.bool done):=HX11.o.cell 11
  refine Zaj ?_
  go_wp2_with (first
   | (refine Zad _ rfl 38 (.tmp 8) (.tmp 49) rfl 0 #[.string X.name,.string X.maker,.string X.tags,.int .i64 X.stock,.int .i64 X.price,.int .i64 X.born,.bool X.listed,.int .i64 now,.int .i64 (now - X.born),.int .i64 fans,.bool fol,.bool done] rfl rfl HY11.o (by show 0+12≤12;omega) Zkt (by simp[Value.oneCell']) ?_;intro w12 hb12 hk12 hs12)
   | fail)
  (try simp only[Exit.inBlock,Exit.then])
  simp only[putA,xq1,xq2,xq3]at hb12
  have hz:fzA (fzOf E p i now)=#[.string X.name,.string X.maker,.string X.tags,.int .i64 X.stock,.int .i64 X.price,.int .i64 X.born,.bool X.listed,.int .i64 now,.int .i64 (now - X.born),.int .i64 fans,.bool fol,.bool done]:=by
   rw[HZ.o];simp[fzA]
  have hx:Blk w12 w.heap.size 38 (fzA (fzOf E p i now)):=by rw[hz];exact hb12
  refine bodyPost_ret (Zc7 (rb:=w.heap.size) rfl rfl (Zed hx)) rfl ?_
  exact⟨rfl,(HB1.o.trans (HB11.o.mono HB1.o.size)).trans (hk12.toBelow (fun i hi=>by rw[hi];exact zr _) (Nat.le_trans HB1.o.size HB11.o.size))⟩
end Go.Proofs.YthdmpcnnbminlaaGreatDoor
namespace Go.Proofs.YthdmpcnnbminlaaGreatDoor
open Go.Shelf Go.RowKit Go.Maps
open Ru (Fz fzA fzX FAC Zed ROf)
def RuleH (w:World) (v:Value) (h:Fz→Bool):Prop:=∀W,Below w.heap.size w W→∀z:Fz,z.tags.size≤300→Calls Tryz.prog 28 #[v,.agg (fzA z)] W (ROf (h z) W)
theorem RuleH.below {w w':World} {v:Value} {h:Fz→Bool} (H:RuleH w v h) (k:Below w.heap.size w w'):RuleH w' v h:=fun W hb z hz=>H W (k.trans (hb.mono k.size)) z hz
theorem RuleH.nil (w:World):RuleH w (.pointer none) (fun _=>true):=fun W _ z _=>Ru.Zne z W
def fstW:List Bool→Nat→Nat
 | [],_=>0
 | b::r,k=>if b then k+1 else fstW r (k+1)
def rowL (z:Fz) (hid:Bool) (crowd span:Int) (ok:Bool):List Bool:=[!z.listed,decide (z.stock=0),hid,z.done,decide (z.fans<crowd)&&decide (span<z.age),!ok]
theorem Zqk (z:Fz) (hid:Bool) (crowd span:Int) (ok:Bool):whyP z hid crowd span ok=fstW (rowL z hid crowd span ok) 0:=by
 unfold whyP rowL fstW
 cases z.listed <;> cases hid <;> cases z.done <;> cases ok <;> simp[fstW]
structure FcAt (w:World) (wc pc ic rc cc fb wb cr:Nat) (p i:ByteArray) (v:Value) (z:Fz):Prop where
 hwc:w.cell? ⟨wc,0,none⟩=some (.pointer (some ⟨wb,0,none⟩))
 hpc:w.cell? ⟨pc,0,none⟩=some (.string p)
 hic:w.cell? ⟨ic,0,none⟩=some (.string i)
 hrc:w.cell? ⟨rc,0,none⟩=some v
 hcc:w.cell? ⟨cc,0,none⟩=some (.pointer (some ⟨cr,0,none⟩))
 hfb:Blk w fb 38 (fzA z)
 lt:wc<w.heap.size∧pc<w.heap.size∧ic<w.heap.size∧rc<w.heap.size∧cc<w.heap.size
theorem FcAt.below {w w':World} {wc pc ic rc cc fb wb cr:Nat} {p i:ByteArray} {v:Value} {z:Fz} (h:FcAt w wc pc ic rc cc fb wb cr p i v z) (k:Below w.heap.size w w'):FcAt w' wc pc ic rc cc fb wb cr p i v z:=
 ⟨(k.cell (p:=⟨wc,0,none⟩) h.lt.1).trans h.hwc,(k.cell (p:=⟨pc,0,none⟩) h.lt.2.1).trans h.hpc,(k.cell (p:=⟨ic,0,none⟩) h.lt.2.2.1).trans h.hic,(k.cell (p:=⟨rc,0,none⟩) h.lt.2.2.2.1).trans h.hrc,(k.cell (p:=⟨cc,0,none⟩) h.lt.2.2.2.2).trans h.hcc,(k.block _ h.hfb.lt).trans h.hfb,by have:=k.size;have:=h.lt;omega⟩
def BoolR (b:Bool) (w:World) (e:Ending) (w':World):Prop:=e = .returned (.bool b)∧Below w.heap.size w w'
section
variable {w : World} {wc pc ic rc cc fb wb ct cr : Nat} {c : Cfg} {E : List Ev} {p i : ByteArray} {v : Value} {z : Fz}
theorem Zsw (h:FcAt w wc pc ic rc cc fb wb cr p i v z):Calls Tryz.prog 63 #[.pointer (some ⟨fb,0,none⟩)] w (BoolR (!z.listed) w):=by
 have c6:w.cell? ⟨fb,6,none⟩=some (.bool z.listed):=h.hfb.cell 6
 clear h
 go_enter Tryz.func63,Tryz.ntmps63
 go_wp2_with fail
 go_ret
 exact⟨rfl,Below.refl _ _⟩
theorem Zsx (h:FcAt w wc pc ic rc cc fb wb cr p i v z):Calls Tryz.prog 64 #[.pointer (some ⟨fb,0,none⟩)] w (BoolR (decide (z.stock=0)) w):=by
 have c6:w.cell? ⟨fb,3,none⟩=some (.int .i64 z.stock):=h.hfb.cell 3
 clear h
 go_enter Tryz.func64,Tryz.ntmps64
 go_wp2_with fail
 go_ret
 exact⟨by rw[show (z.stock == 0)=decide (z.stock=0) from rfl];rfl,Below.refl _ _⟩
theorem Zsy (h:FcAt w wc pc ic rc cc fb wb cr p i v z):Calls Tryz.prog 65 #[.pointer (some ⟨fb,0,none⟩)] w (BoolR z.done w):=by
 have c6:w.cell? ⟨fb,11,none⟩=some (.bool z.done):=h.hfb.cell 11
 clear h
 go_enter Tryz.func65,Tryz.ntmps65
 go_wp2_with fail
 go_ret
 exact⟨rfl,Below.refl _ _⟩
theorem Zsz {H:Fz→Bool} (h:FcAt w wc pc ic rc cc fb wb cr p i v z) (hr:RuleH w v H) (hz:z.tags.size≤300):Calls Tryz.prog 68 #[.pointer (some ⟨rc,0,none⟩),.pointer (some ⟨fb,0,none⟩)] w (BoolR (!H z) w):=by
 have c1:=h.hrc
 have f0:w.cell? ⟨fb,0,none⟩=some (.string z.name):=h.hfb.cell 0
 have f1:w.cell? ⟨fb,1,none⟩=some (.string z.maker):=h.hfb.cell 1
 have f2:w.cell? ⟨fb,2,none⟩=some (.string z.tags):=h.hfb.cell 2
 have f3:w.cell? ⟨fb,3,none⟩=some (.int .i64 z.stock):=h.hfb.cell 3
 have f4:w.cell? ⟨fb,4,none⟩=some (.int .i64 z.price):=h.hfb.cell 4
 have f5:w.cell? ⟨fb,5,none⟩=some (.int .i64 z.born):=h.hfb.cell 5
 have f6:w.cell? ⟨fb,6,none⟩=some (.bool z.listed):=h.hfb.cell 6
 have f7:w.cell? ⟨fb,7,none⟩=some (.int .i64 z.now):=h.hfb.cell 7
 have f8:w.cell? ⟨fb,8,none⟩=some (.int .i64 z.age):=h.hfb.cell 8
 have f9:w.cell? ⟨fb,9,none⟩=some (.int .i64 z.fans):=h.hfb.cell 9
 have f10:w.cell? ⟨fb,10,none⟩=some (.bool z.follows):=h.hfb.cell 10
 have f11:w.cell? ⟨fb,11,none⟩=some (.bool z.done):=h.hfb.cell 11
 have HH:=zh (hr w (Below.refl _ _) z hz)
 unfold fzA at HH
 clear h hr
 go_enter Tryz.func68,Tryz.ntmps68
 go_wp2_with fail
 refine HH.o.mono ?_
 rintro e w1 ⟨rfl,hb1⟩
 have HB:=zh hb1
 clear hb1 HH
 go_wp2_with fail
 go_ret
 exact⟨rfl,HB.o⟩
theorem Zs0 {hd:Bool} (h:FcAt w wc pc ic rc cc fb wb cr p i v z) (hw:WrAt w wb ct cr c E) (hlen:E.length≤1000) (hp:p.size≤300) (hi:i.size≤300) (hm:(hidO (rowsW E) p i).getD false=false→decide (mutO (rowsW E) p z.maker=some true)=hd) (ho:(hidO (rowsW E) p i).getD false=true→true=hd) :
  Calls Tryz.prog 62 #[.pointer (some ⟨cc,0,none⟩),.pointer (some ⟨pc,0,none⟩),.pointer (some ⟨ic,0,none⟩),.pointer (some ⟨fb,0,none⟩)] w (BoolR hd w):=by
 obtain⟨a,ha⟩:∃a,(hidO (rowsW E) p i).getD false=a:=⟨_,rfl⟩
 obtain⟨U,hU⟩:=hw.crw
 have hrl:=Zcs E
 have HS:Hid (∀W,Below w.heap.size w W→FcAt W wc pc ic rc cc fb wb cr p i v z):=zh (fun W hb=>h.below hb)
 have HSC:Hid (∀W,Below w.heap.size w W→World.cell? W ⟨pc,0,none⟩=some (.string p)∧World.cell? W ⟨ic,0,none⟩=some (.string i)∧World.cell? W ⟨cc,0,none⟩=some (.pointer (some ⟨cr,0,none⟩))∧World.cell? W ⟨fb,1,none⟩=some (.string z.maker)):=zh (fun W hb=>⟨(HS.o W hb).hpc,(HS.o W hb).hic,(HS.o W hb).hcc,(HS.o W hb).hfb.cell 1⟩)
 have HHD:Hid (∀W,Below w.heap.size w W→Calls Tryz.prog 34 #[.pointer (some ⟨cr,0,none⟩),.string p,.string i] W fun e w'=>e = .returned (.bool a)∧Below W.heap.size W w'):=zh (fun W hb=>by rw[←ha];exact Zfb cr (halfP c.half) U (rowsW E) p i W (hU.below hb) (by unfold maxLen;omega) (by unfold maxLen;omega))
 have HMU:Hid (∀W,Below w.heap.size w W→Calls Tryz.prog 36 #[.pointer (some ⟨cr,0,none⟩),.string p] W fun e w'=>∃(A:Option Addr) (c:Nat) (ks:List ByteArray),e = .returned (.slice A ks.length c)∧memB z.maker ks=decide (mutO (rowsW E) p z.maker=some true)∧RowIn w' w'.heap.size 1 A ks.length (ks.map .string)∧ks.length≤1000∧Below W.heap.size W w'):=zh (fun W hb=>by
  refine (Zhz cr (halfP c.half) U (rowsW E) p W (hU.below hb) (by unfold maxLen;omega) (by omega)).mono ?_
  rintro e w' ⟨A,c,ks,rfl,h1,h2,h3,h4⟩
  exact⟨A,c,ks,rfl,by rw[Zfg h1],RowIn.of_own h2,h3,h4⟩)
 rw[ha]at hm ho
 have HM:=zh hm
 have HO:=zh ho
 clear h hw hlen hp hi hm ho hU hrl ha
 obtain⟨wd,hwd⟩:∃z,w.drew=z:=⟨_,rfl⟩
 have HBD:Hid (Below w.heap.size w wd):=zh (by rw[←hwd];exact below_drew (Below.refl _ _))
 go_enter Tryz.func62,Tryz.ntmps62
 go_wp2_with fail
 refine Zar (fun W=>Below w.heap.size w W) [(0,false),(1,false),(2,false),(3,true),(4,false),(5,false),(6,false),(8,false),(9,false),(10,false),(7,true),(11,true),(12,false),(13,false)] (by kernel_rfl) (by kernel_rfl) (below_drew (Below.refl _ _)) ?_
 simp only[planL,List.getElem?_cons_zero,List.getElem?_cons_succ]
 rw[hwd]
 clear hwd
 repeat (first|(refine Zaf _ (by rfl) (fun W hW=>by (obtain⟨y0,y1,y2,y3⟩:=HSC.o W hW;go_simp;try with_reducible rfl)) ?_;simp only[Act.put,xq1,xq2,xq3])|(refine Zac (by rfl) ?_;simp only[Act.put,xq1,xq2,xq3]))
 refine Zae ?_
 have HC:=zh (HHD.o wd HBD.o)
 go_wp2_with fail
 refine HC.o.mono ?_
 rintro e w1 ⟨rfl,hb1⟩
 have HB1:Hid (Below w.heap.size w w1):=zh (HBD.o.trans (hb1.mono HBD.o.size))
 clear hb1 HC
 cases a with
 | true=>
  go_wp2_with fail
  refine⟨HB1.o,?_⟩
  repeat (first|(refine Zaf _ (by rfl) (fun W hW=>by (obtain⟨y0,y1,y2,y3⟩:=HSC.o W hW;go_simp;try with_reducible rfl)) ?_;simp only[Act.put,xq1,xq2,xq3])|(refine Zac (by rfl) ?_;simp only[Act.put,xq1,xq2,xq3]))
  refine Zae ?_
  go_wp2_with fail
  refine⟨HB1.o,?_⟩
  refine Zae ?_
  go_wp2_with fail
  refine⟨HB1.o,?_⟩
  repeat (first|(refine Zaf _ (by rfl) (fun W hW=>by (obtain⟨y0,y1,y2,y3⟩:=HSC.o W hW;go_simp;try with_reducible rfl)) ?_;simp only[Act.put,xq1,xq2,xq3])|(refine Zac (by rfl) ?_;simp only[Act.put,xq1,xq2,xq3]))
  refine Zah ?_
  go_wp2_with fail
  go_ret
  exact⟨by rw[←HO.o trivial];rfl,HB1.o⟩
 | false=>
  have HMM:=HM.o rfl
  go_wp2_with fail
  refine⟨HB1.o,?_⟩
  repeat (first|(refine Zaf _ (by rfl) (fun W hW=>by (obtain⟨y0,y1,y2,y3⟩:=HSC.o W hW;go_simp;try with_reducible rfl)) ?_;simp only[Act.put,xq1,xq2,xq3])|(refine Zac (by rfl) ?_;simp only[Act.put,xq1,xq2,xq3]))
  refine Zae ?_
  have HC:=zh (HMU.o w1 HB1.o)
  go_wp2_with fail
  refine HC.o.mono ?_
  rintro e w2 ⟨A2,c2,ks,rfl,h1,h2,h3,h4⟩
  have HB2:Hid (Below w.heap.size w w2):=zh (HB1.o.trans (h4.mono HB1.o.size))
  have HCT:=zh (contains_any w2 w2.heap.size A2 ks ks.length c2 z.maker rfl h2 (by omega))
  rw[h1,HMM]at HCT
  clear h1 h2 h3 h4 HC
  go_wp2_with fail
  refine⟨HB2.o,?_⟩
  refine Zae ?_
  go_wp2_with fail
  refine HCT.o.mono ?_
  rintro e w3 ⟨rfl,rfl⟩
  clear HCT
  go_wp2_with fail
  refine⟨HB2.o,?_⟩
  repeat (first|(refine Zaf _ (by rfl) (fun W hW=>by (obtain⟨y0,y1,y2,y3⟩:=HSC.o W hW;go_simp;try with_reducible rfl)) ?_;simp only[Act.put,xq1,xq2,xq3])|(refine Zac (by rfl) ?_;simp only[Act.put,xq1,xq2,xq3]))
  refine Zah ?_
  go_wp2_with fail
  go_ret
  exact⟨rfl,HB2.o⟩
theorem Zs1 (h:FcAt w wc pc ic rc cc fb wb cr p i v z) (hw:WrAt w wb ct cr c E) :
  Calls Tryz.prog 66 #[.pointer (some ⟨fb,0,none⟩),.pointer (some ⟨wc,0,none⟩)] w (BoolR (decide (z.fans<c.crowd)&&decide (c.span<z.age)) w):=by
 obtain⟨a,ha⟩:∃a,decide (z.fans<c.crowd)=a:=⟨_,rfl⟩
 have HS:Hid (∀W,Below w.heap.size w W→FcAt W wc pc ic rc cc fb wb cr p i v z):=zh (fun W hb=>h.below hb)
 have HSC:Hid (∀W,Below w.heap.size w W→World.cell? W ⟨wc,0,none⟩=some (.pointer (some ⟨wb,0,none⟩))∧World.cell? W ⟨fb,9,none⟩=some (.int .i64 z.fans)∧World.cell? W ⟨fb,8,none⟩=some (.int .i64 z.age)):=zh (fun W hb=>⟨(HS.o W hb).hwc,(HS.o W hb).hfb.cell 9,(HS.o W hb).hfb.cell 8⟩)
 have HCF:Hid (∀W,Below w.heap.size w W→Calls Tryz.prog 67 #[.pointer (some ⟨wb,0,none⟩)] W fun e w'=>e = .returned (cfgA c)∧Below W.heap.size W w'):=zh (fun W hb=>Zc8 (hw.below hb))
 clear h hw
 obtain⟨wd,hwd⟩:∃z,w.drew=z:=⟨_,rfl⟩
 have HBD:Hid (Below w.heap.size w wd):=zh (by rw[←hwd];exact below_drew (Below.refl _ _))
 have HA:=zh ha
 go_enter Tryz.func66,Tryz.ntmps66
 go_wp2_with fail
 refine Zar (fun W=>Below w.heap.size w W) [(0,false),(1,false),(2,false),(3,true),(4,false),(5,false),(6,false),(7,false),(8,false),(9,false),(10,true),(11,false),(12,false),(13,false),(14,false)] (by kernel_rfl) (by kernel_rfl) (below_drew (Below.refl _ _)) ?_
 simp only[planL,List.getElem?_cons_zero,List.getElem?_cons_succ]
 rw[hwd]
 clear hwd
 repeat (first|(refine Zaf _ (by rfl) (fun W hW=>by (obtain⟨y0,y1,y2⟩:=HSC.o W hW;go_simp;try with_reducible rfl)) ?_;simp only[Act.put,xq1,xq2,xq3])|(refine Zac (by rfl) ?_;simp only[Act.put,xq1,xq2,xq3]))
 refine Zae ?_
 have HC:=zh (HCF.o wd HBD.o)
 unfold cfgA at HC
 go_wp2_with fail
 refine HC.o.mono ?_
 rintro e w1 ⟨rfl,hb1⟩
 have HB1:Hid (Below w.heap.size w w1):=zh (HBD.o.trans (hb1.mono HBD.o.size))
 clear hb1 HC
 cases a with
 | false=>
  have hA:=HA.o
  go_wp2_with fail
  refine⟨HB1.o,?_⟩
  refine Zaf (.int .i64 c.crowd) (by rfl) (fun W hW=>by rfl) ?_
  simp only[Act.put,xq1,xq2,xq3]
  repeat (first|(refine Zaf _ (by rfl) (fun W hW=>by (obtain⟨y0,y1,y2⟩:=HSC.o W hW;go_simp;try with_reducible rfl)) ?_;simp only[Act.put,xq1,xq2,xq3])|(refine Zac (by rfl) ?_;simp only[Act.put,xq1,xq2,xq3]))
  refine Zae ?_
  go_wp2_with fail
  refine⟨HB1.o,?_⟩
  repeat (first|(refine Zaf _ (by rfl) (fun W hW=>by (obtain⟨y0,y1,y2⟩:=HSC.o W hW;go_simp;try with_reducible rfl)) ?_;simp only[Act.put,xq1,xq2,xq3])|(refine Zac (by rfl) ?_;simp only[Act.put,xq1,xq2,xq3]))
  refine Zah ?_
  go_wp2_with fail
  go_ret
  exact⟨by simp[HA.o],HB1.o⟩
 | true=>
  have hA:=HA.o
  go_wp2_with fail
  refine⟨HB1.o,?_⟩
  refine Zaf (.int .i64 c.crowd) (by rfl) (fun W hW=>by rfl) ?_
  simp only[Act.put,xq1,xq2,xq3]
  repeat (first|(refine Zaf _ (by rfl) (fun W hW=>by (obtain⟨y0,y1,y2⟩:=HSC.o W hW;go_simp;try with_reducible rfl)) ?_;simp only[Act.put,xq1,xq2,xq3])|(refine Zac (by rfl) ?_;simp only[Act.put,xq1,xq2,xq3]))
  refine Zae ?_
  have HC:=zh (HCF.o w1 HB1.o)
  unfold cfgA at HC
  go_wp2_with fail
  refine HC.o.mono ?_
  rintro e w2 ⟨rfl,hb2⟩
  have HB2:Hid (Below w.heap.size w w2):=zh (HB1.o.trans (hb2.mono HB1.o.size))
  clear hb2 HC
  go_wp2_with fail
  refine⟨HB2.o,?_⟩
  refine Zaf (.int .i64 c.span) (by rfl) (fun W hW=>by rfl) ?_
  simp only[Act.put,xq1,xq2,xq3]
  repeat (first|(refine Zaf _ (by rfl) (fun W hW=>by (obtain⟨y0,y1,y2⟩:=HSC.o W hW;go_simp;try with_reducible rfl)) ?_;simp only[Act.put,xq1,xq2,xq3])|(refine Zac (by rfl) ?_;simp only[Act.put,xq1,xq2,xq3]))
  refine Zah ?_
  go_wp2_with fail
  go_ret
  exact⟨by simp[HA.o],HB2.o⟩
end
end Go.Proofs.YthdmpcnnbminlaaGreatDoor

/- A part of the joined base. -/
import Derived.Test.YtnpfaajhgghpgaaGreatDoorU08
set_option linter.unusedVariables false
set_option maxHeartbeats 8000000
set_option maxRecDepth 100000
namespace Go.Proofs.YtnpfaajhgghpgaaGreatDoor
open Go.Shelf Go.RowKit Go.Maps
open Go.WideMaps (KeyLaw)
def InR (n:Int):Prop:=-9223372036854775808<=n/\n<=9223372036854775807
def litI (x:ByteArray)(n:Int):Lit:=.string (keyBytes [.string x.data.toList,.int .i64 n])
theorem Zj8 {n:Int}(h:InR n):(Lit.int .i64 n).wf=true:=by
 unfold InR at h;simp[Lit.wf,IntKind.min,IntKind.max,IntKind.signed,IntKind.bits];omega
theorem Zpb {x x':ByteArray}{n n':Int}(h1:x.size<=maxLen)(h2:InR n)(h3:x'.size<=maxLen)(h4:InR n')(h:litI x n=litI x' n'):x=x'/\n=n':=by
 unfold litI at h;injection h with h;have hl:∀s:ByteArray,s.size<=maxLen->s.data.toList.length<=maxLen:=fun s hs=>by simpa using hs
 have:=keyBytes_inj (l:=[.string x.data.toList,.int .i64 n]) (l':=[.string x'.data.toList,.int .i64 n']) ⟨trivial,rfl,trivial⟩
  (fun a ha=>by simp at ha;rcases ha with rfl|rfl <;> simp only[Lit.keyWf] <;> (first|exact hl _ h1|exact Zj8 h2))
  (fun a ha=>by simp at ha;rcases ha with rfl|rfl <;> simp only[Lit.keyWf] <;> (first|exact hl _ h3|exact Zj8 h4)) h
 injection this with e1 e2;injection e2 with e2 _;injection e1 with e1;injection e2 with _ e2;exact⟨ba_eq e1,e2⟩
theorem Zht {x x':ByteArray}{n n':Int}(h1:x.size<=maxLen)(h2:InR n)(h3:x'.size<=maxLen)(h4:InR n'):(litI x n).sameKey (litI x' n')=decide (x=x'/\n=n'):=by
 by_cases h:x=x'/\n=n'
 ·obtain⟨rfl,rfl⟩:=h;rw[WideAt.sameKey_self (by trivial)];simp
 ·rw[sameKey_ne (fun e=>h (Zpb h1 h2 h3 h4 e))];simp[h]
theorem idnLaw:KeyLaw Tryz.prog 116:=deep_law_laid (by kernel_rfl) (m:=2) (by omega) (of_decide_eq_true (by kernel_rfl)) (by kernel_rfl) (by kernel_rfl)
theorem idnKeyed:Keyed Tryz.prog 116:=Keyed.of_law idnLaw
theorem Zhu (x:ByteArray)(n:Int)(hx:x.size<=maxLen)(hn:InR n):keyOf Tryz.prog 116 (.agg #[.string x,.int .i64 n])=some (litI x n):=by
 have hc:Tryz.prog.cellsOf 116 = 2:=by kernel_rfl
 have hc1:Tryz.prog.cellsOf 3 = 1:=by kernel_rfl
 have hc2:Tryz.prog.cellsOf 9 = 1:=by kernel_rfl
 have hk:Tryz.prog.keyType 116 = true:=by kernel_rfl
 have hw:=Zj8 hn
 obtain⟨d,hd⟩:∃d,Tryz.prog.types.size+1=d+2:=⟨Tryz.prog.types.size - 1,by
  have:1<=Tryz.prog.types.size:=of_decide_eq_true (by kernel_rfl);omega⟩
 unfold keyOf;rw[Tryz.underlying116];simp only[hk,Value.formed,Tryz.underlying116,hc,hd];simp[Program.keyLits,Tryz.underlying116,Tryz.underlying3,Tryz.underlying9,hc,hc1,hc2,Value.cells,hx,hw,litI]
theorem celLaw:KeyLaw Tryz.prog 213:=deep_law_laid (by kernel_rfl) (m:=2) (by omega) (of_decide_eq_true (by kernel_rfl)) (by kernel_rfl) (by kernel_rfl)
theorem celKeyed:Keyed Tryz.prog 213:=Keyed.of_law celLaw
theorem Zhv (x:ByteArray)(n:Int)(hx:x.size<=maxLen)(hn:InR n):keyOf Tryz.prog 213 (.agg #[.string x,.int .i64 n])=some (litI x n):=by
 have hc:Tryz.prog.cellsOf 213 = 2:=by kernel_rfl
 have hc1:Tryz.prog.cellsOf 3 = 1:=by kernel_rfl
 have hc2:Tryz.prog.cellsOf 9 = 1:=by kernel_rfl
 have hk:Tryz.prog.keyType 213 = true:=by kernel_rfl
 have hw:=Zj8 hn
 obtain⟨d,hd⟩:∃d,Tryz.prog.types.size+1=d+2:=⟨Tryz.prog.types.size - 1,by
  have:1<=Tryz.prog.types.size:=of_decide_eq_true (by kernel_rfl);omega⟩
 unfold keyOf;rw[Tryz.underlying213];simp only[hk,Value.formed,Tryz.underlying213,hc,hd];simp[Program.keyLits,Tryz.underlying213,Tryz.underlying3,Tryz.underlying9,hc,hc1,hc2,Value.cells,hx,hw,litI]
def IsI (ok:Value->Bool)(w:World)(b n:Nat)(f:ByteArray->Int->Option Value):Prop:=∃M,MapIs Tryz.prog 116 ok w b n M/\∀x k,x.size<=maxLen->InR k->M (litI x k)=f x k
section
variable {ok : Value -> Bool} {w w' : World} {b n : Nat} {f f' : ByteArray -> Int -> Option Value}
theorem IsI.made (w:World)(ok:Value->Bool):IsI ok (w.alloc (.map #[] 0)) w.heap.size 0 (fun _ _=>none):=⟨_,MapIs.made w Tryz.prog _ ok,fun _ _ _ _=>rfl⟩
theorem IsI.kept {S:Nat->Prop}(h:IsI ok w b n f)(k:Kept S w w')(hb:¬S b):IsI ok w' b n f:=by
 obtain⟨M,h1,h2⟩:=h;exact⟨M,h1.kept k hb,h2⟩
theorem IsI.mono {n':Nat}(h:IsI ok w b n f)(hn:n<=n'):IsI ok w b n' f:=by
 obtain⟨M,h1,h2⟩:=h;exact⟨M,h1.mono hn,h2⟩
theorem IsI.congr (h:IsI ok w b n f)(he:∀x y,f x y=f' x y):IsI ok w b n f':=by
 obtain⟨M,h1,h2⟩:=h;exact⟨M,h1,fun x y hx hy=>(h2 x y hx hy).trans (he x y)⟩
def updI (f:ByteArray->Int->Option Value)(x:ByteArray)(k:Int)(v:Value):ByteArray->Int->Option Value:=fun a b=>if a=x/\b=k then some v else f a b
theorem Zr7 {M:Lit->Option Value}(h:∀x k,x.size<=maxLen->InR k->M (litI x k)=f x k){x:ByteArray}{k:Int}(hx:x.size<=maxLen)(hk:InR k)(v:Value):∀a b,a.size<=maxLen->InR b->upd M (litI x k) v (litI a b)=updI f x k v a b:=fun a b ha hb=>by
 unfold upd updI;rw[Zht ha hb hx hk];by_cases e:a=x/\b=k
 ·simp[e]
 ·simp only[e,decide_false,Bool.false_eq_true,if_false];exact h a b ha hb
end
end Go.Proofs.YtnpfaajhgghpgaaGreatDoor
namespace Go.Proofs.YtnpfaajhgghpgaaGreatDoor
open Go.Shelf Go.RowKit Go.Maps
def intC (z:Int):List Value:=[.int .i64 z]
structure PnIn (w:World) (pb sb rb:Nat) (width added:Int) (G:ByteArray->Option Value) (R:ByteArray->List Int) (B:Nat->Prop) (n:Nat):Prop where
 blk:Blk w pb 195 #[.int .i64 width,.int .i64 added,.map (some sb),.map (some rb)]
 few:0<=added/\added<=n
 wid:1<=width/\width<=1099511627776
 sums:SomeMap 213 okInt w sb n
 rows:GrpIn intC 1 3 w rb n 0 G R
 lens:∀p,(R p).length<=n
 ne:sb≠rb
 up:B pb
 us:B sb
 ur:B rb
 ug:∀p v g,G p=some v->v.ownBlock=some g->B g
 lt:∀q,B q->q<w.heap.size
def PnAt (w:World)(pb:Nat)(B:Nat->Prop)(n:Nat):Prop:=∃sb rb width added G R,PnIn w pb sb rb width added G R B n
section
variable {w w' : World} {pb sb rb n n' : Nat} {width added : Int} {G : ByteArray -> Option Value} {R : ByteArray -> List Int} {B T : Nat -> Prop}
theorem SomeMap.ne_blk {k:TypeId}{ok:Value->Bool}{b g:Nat}{t:TypeId}{cs:Array Value}(h:SomeMap k ok w b n)(hb:Blk w g t cs):b≠g:=by obtain⟨M,h⟩:=h;exact h.ne_blk hb
theorem PnIn.kept (h:PnIn w pb sb rb width added G R B n)(k:Kept T w w')(hT:∀q,B q->¬T q):PnIn w' pb sb rb width added G R B n:=
 ⟨h.blk.kept k (hT _ h.up),h.few,h.wid,h.sums.kept k (hT _ h.us),h.rows.kept k (hT _ h.ur) (fun p g v hp hg=>hT _ (h.ug p v g hp hg)),h.lens,h.ne,h.up,h.us,h.ur,h.ug,fun q hq=>Nat.lt_of_lt_of_le (h.lt q hq) k.size⟩
theorem PnIn.mono (h:PnIn w pb sb rb width added G R B n)(hn:n<=n'):PnIn w pb sb rb width added G R B n':=
 ⟨h.blk,⟨h.few.1,by have:=h.few.2;omega⟩,h.wid,h.sums.mono hn,h.rows.mono hn,fun p=>Nat.le_trans (h.lens p) hn,h.ne,h.up,h.us,h.ur,h.ug,h.lt⟩
theorem PnAt.kept (h:PnAt w pb B n)(k:Kept T w w')(hT:∀q,B q->¬T q):PnAt w' pb B n:=by
 obtain⟨sb,rb,width,added,G,R,h⟩:=h;exact⟨sb,rb,width,added,G,R,h.kept k hT⟩
theorem PnAt.mono (h:PnAt w pb B n)(hn:n<=n'):PnAt w pb B n':=by
 obtain⟨sb,rb,width,added,G,R,h⟩:=h;exact⟨sb,rb,width,added,G,R,h.mono hn⟩
theorem PnAt.lt (h:PnAt w pb B n):∀q,B q->q<w.heap.size:=by
 obtain⟨sb,rb,width,added,G,R,h⟩:=h;exact h.lt
end
theorem Zpc (h:Int)(w:World):Calls Tryz.prog 78 #[.int .i64 h] w fun e w'=>∃pb B,e = .returned (.pointer (some ⟨pb,0,none⟩))/\PnAt w' pb B 0/\(∀q,B q->w.heap.size<=q)/\Below w.heap.size w w':=by
 have hmm:=@run_makeMap Tryz.prog;obtain⟨hf,hhf⟩:=zG (min (max h 1) 1099511627776);have HW:Hid (1<=hf/\hf<=1099511627776):=zh (by omega);obtain⟨w1,hw1⟩:=zG (w.alloc (.map #[] 0));obtain⟨w2,hw2⟩:=zG (w1.alloc (.map #[] 0));have z1:Hid (w1.heap.size=w.heap.size+1):=zh (by rw[<-hw1];simp);have z2:Hid (w2.heap.size=w1.heap.size+1):=zh (by rw[<-hw2];simp);have HB1:=zA hw1;have HB2:=zA hw2;have HM:Hid (SomeMap 213 okInt w1 w.heap.size 0):=zh (by rw[<-hw1];exact SomeMap.made _ _ _);have HG:Hid (GrpIn intC 1 3 w2 w1.heap.size 0 0 (fun _=>none) (fun _=>([]:List Int))):=zh (by rw[<-hw2];exact GrpIn.made _ _);go_enter Tryz.func78,Tryz.ntmps78;go_wp2_with fail;go_ret;obtain⟨w3,hw3⟩:=zG (w2.alloc (.cells #[.int .i64 hf,.int .i64 0,.map (some w.heap.size),.map (some w1.heap.size)] 195));rw[hw3];have c3:Below w2.heap.size w2 w3:=by rw[<-hw3];exact (Below.refl _ _).alloc (zr _) _
 have b3:Blk w3 w2.heap.size 195 #[.int .i64 hf,.int .i64 0,.map (some w.heap.size),.map (some w1.heap.size)]:=by rw[<-hw3];exact Blk.new _ _ _
 have zz1:=z1.o;have zz2:=z2.o;have c2:Below w1.heap.size w1 w3:=HB2.o.trans (c3.mono HB2.o.size);have hlt:=b3.lt;refine⟨w2.heap.size,fun q=>w.heap.size<=q/\q<=w2.heap.size,rfl,⟨w.heap.size,w1.heap.size,hf,0,fun _=>none,fun _=>[],?_⟩,fun q hq=>hq.1,HB1.o.trans (c2.mono HB1.o.size)⟩;exact⟨b3,⟨Int.le_refl _,Int.le_refl _⟩,HW.o,HM.o.kept (below_kept (S:=fun _=>False) c2 (zr _)) (fun h=>h),HG.o.below c3,fun _=>zr _,by omega,⟨by omega,by omega⟩,⟨by omega,by omega⟩,⟨by omega,by omega⟩,fun p v g hp=>(by cases hp),fun q hq=>by omega⟩
theorem Zr8 (pb:Nat)(width t:Int)(w:World)(hc:w.cell? ⟨pb,0,none⟩=some (.int .i64 width))(hw:1<=width/\width<=1099511627776)(ht:0<=t/\t<=1099511627776) :
  Calls Tryz.prog 117 #[.pointer (some ⟨pb,0,none⟩),.int .i64 t] w fun e w'=>e = .returned (.int .i64 (t / width))/\w=w':=by
 have h1:0<=t / width:=Int.ediv_nonneg ht.1 (by omega);have h2:0<=t % width:=Int.emod_nonneg t (by omega);have h3:t / width<=t:=Int.ediv_le_self width ht.1;have h4:t % width<width:=Int.emod_lt_of_pos t (by omega);have d1:decide (t % width<0)=false:=decide_eq_false (by omega);have h5:(width == 0)=false:=by simp;omega
 obtain⟨a1,a2⟩:=hw;obtain⟨b1,b2⟩:=ht;go_enter Tryz.func117,Tryz.ntmps117;go_wp2_with fail;go_ret;exact⟨rfl,rfl⟩
def PnS (W:World)(pb sb rb cb:Nat)(x:ByteArray)(z:Int):Prop:=World.cell? W ⟨pb,2,none⟩=some (.map (some sb))/\World.cell? W ⟨pb,3,none⟩=some (.map (some rb))/\World.cell? W ⟨cb,0,none⟩=some (.string x)/\World.cell? W ⟨cb,1,none⟩=some (.int .i64 z)
theorem Zhw {W:World}{pb sb rb cb:Nat}{width added:Int}{x:ByteArray}{z:Int}(h1:Blk W pb 195 #[.int .i64 width,.int .i64 added,.map (some sb),.map (some rb)])(h2:Blk W cb 213 #[.string x,.int .i64 z]):PnS W pb sb rb cb x z:=⟨h1.cell 2,h1.cell 3,h2.cell 0,h2.cell 1⟩
theorem zeroInts (w:World):(zeroValue 200).run Tryz.prog w = .ok (.slice none 0 0) w:=by kernel_rfl
def moreI (R:ByteArray->List Int)(p:ByteArray)(z:Int):ByteArray->List Int:=fun q=>if q=p then R p++[z] else R q
def PnMid (w wx:World)(pb sb rb:Nat)(width added:Int)(B:Nat->Prop)(n cb:Nat)(x:ByteArray)(z:Int):Prop:=∃G' R' B',PnIn wx pb sb rb width added G' R' B' n/\Grows B B' w.heap.size/\Kept B w wx/\Blk wx cb 213 #[.string x,.int .i64 z]
theorem Zpd (w:World)(pb sb rb:Nat)(width added:Int)(G:ByteArray->Option Value)(R:ByteArray->List Int)(B:Nat->Prop)(n:Nat)(h:PnIn w pb sb rb width added G R B n)(x:ByteArray)(z v:Int)(hx:x.size<=maxLen)(hz:InR z)(hv:1<=v)(hn:n<=1000000) :
  Calls Tryz.prog 116 #[.pointer (some ⟨pb,0,none⟩),.agg #[.string x,.int .i64 z],.int .i64 v] w fun e w'=>e = .returned (.tuple #[])/\∃G' R' B',PnIn w' pb sb rb width added G' R' B' (n+2)/\Grows B B' w.heap.size/\Kept B w w':=by
 obtain⟨cb,hcb⟩:=zG (w.heap.size);obtain⟨w1,hw1⟩:=zG (w.alloc (.cells #[.string x,.int .i64 z] 213));have HK1:Hid (Kept (fun _=>False) w w1):=zh (by rw[<-hw1];exact (Kept.refl _ w).alloc _);have HC1:Hid (Blk w1 cb 213 #[.string x,.int .i64 z]):=zh (by rw[<-hw1,<-hcb];exact Blk.new _ _ _);have HI1:Hid (PnIn w1 pb sb rb width added G R B n):=zh (h.kept HK1.o (fun _ _ h=>h));have HLT:Hid (∀q,B q->q<cb):=zh (by rw[<-hcb];exact h.lt);have HZ1:Hid (w1.heap.size=cb+1):=zh (by rw[<-hw1,<-hcb];simp);have HCB:=zh hcb;obtain⟨M,hM⟩:=HI1.o.sums;have HM:=zh hM;have hok:okInt ((M (litI x z)).getD (.int .i64 0))=true:=by
  cases h2:M (litI x z) with
  | none=>rfl
  | some u=>exact hM.ok_of h2
 obtain⟨z0,hz0⟩:=Zrb hok;have HZ0:=zh hz0
 have HLK:Hid (∀W,(PnS W pb sb rb cb x z/\MapIs Tryz.prog 213 okInt W sb n M)->PnS W pb sb rb cb x z/\(Instr.lookup 192 (.map (some sb)) (.agg #[.string x,.int .i64 z]) false).run Tryz.prog W = .ok (.int .i64 z0) W):=zh (fun W h=>⟨h.1,by
  have:=h.2.look celKeyed Tryz.underlying192 (zeroI64 W) rfl (Zhv x z hx hz);rw[HZ0.o]at this;exact this⟩)
 have hv0:(v == 0)=false:=by simp;omega
 clear h hM hok hz0;clear hcb;go_enter Tryz.func116,Tryz.ntmps116;go_upto_region 2 with fail;rw[HCB.o];refine Zar (fun W=>PnS W pb sb rb cb x z/\MapIs Tryz.prog 213 okInt W sb n M) [(0,false),(1,false),(2,false),(3,false),(4,false),(5,false),(6,false)] (by kernel_rfl) (by kernel_rfl) ⟨Zhw HI1.o.blk.drew HC1.o.drew,HM.o.drew⟩ ?_;simp only[planL,xq4,xq5]
 repeat ((first|(refine Zaf _ (by rfl) (fun W hW=>by (obtain⟨⟨x0,x1,x2,x3⟩,hlk⟩:=HLK.o W hW;go_simp;try with_reducible rfl)) ?_)|(refine Zac (by rfl) ?_));simp only[Act.put,xq1,xq2,xq3])
 refine Zah ?_;have HCS:Hid (w1.drew.heap.size=cb+1):=HZ1;obtain⟨w2,hw2⟩:=zG (w1.drew);rw[hw2];rw[hw2]at HCS;have HI2:Hid (PnIn w2 pb sb rb width added G R B n):=zh (by rw[<-hw2];exact HI1.o.kept ((Kept.refl (fun _=>False) w1).drew) (fun _ _ h=>h));have HC2:Hid (Blk w2 cb 213 #[.string x,.int .i64 z]):=zh (by rw[<-hw2];exact HC1.o.drew);have HK2:Hid (Kept (fun _=>False) w w2):=zh (by rw[<-hw2];exact HK1.o.drew);clear hw2 HI1 HC1 HLK HM HK1 HZ1 hw1;go_upto_if 16 with fail;go_cut [] (fun wx=>Hid (PnMid w wx pb sb rb width added B (n+1) cb x z))
 case first=>
  by_cases hz:z0=0
  rotate_left
  ·have e0:(z0 == 0)=false:=by simp[hz]
   clear hz;go_wp2_with fail;go_meet;exact zh ⟨G,R,B,HI2.o.mono (Nat.le_succ _),Grows.refl _ _,HK2.o.mono (fun _ _ h=>h.elim),HC2.o⟩
  ·have e0:(z0 == 0)=true:=by simp[hz]
   clear hz;go_wp2_with fail;obtain⟨A8,c8,hgr,how,hold⟩:=HI2.o.rows.row x;obtain⟨N,hN⟩:=zG ((R x).length);have hNn:N<=n:=by rw[<-hN];exact HI2.o.lens x
   rw[hN]at hgr how hold;have HNN:=zh hN;have HOW:=zh how;have HOLD:=zh hold;have HGR:=zh hgr;have HRM:=zh HI2.o.rows.map
   have HLK:Hid (∀W,(PnS W pb sb rb cb x z/\MapIs Tryz.prog 9 okSl W rb n (mapG G))->PnS W pb sb rb cb x z/\(Instr.lookup 193 (.map (some rb)) (.string x) false).run Tryz.prog W = .ok (.slice A8 N c8) W):=zh (fun W h=>⟨h.1,by
    have:=h.2.look (string_keyed Tryz.underlying9) Tryz.underlying193 (zeroInts W) rfl (WideMaps.keyOf_string_mk Tryz.underlying9 hx);rw[mapG_at,HGR.o]at this;exact this⟩)
   obtain⟨i0,hi0,hy0,hy1,hy2⟩:=info_parts Zov;clear hN how hold hgr;refine Zaq (fun W=>PnS W pb sb rb cb x z/\MapIs Tryz.prog 9 okSl W rb n (mapG G)) [(0,1),(1,1),(2,1),(3,1),(4,1),(5,1),(6,1),(7,1),(8,1),(9,1),(10,1),(11,1),(12,1),(13,1),(14,1),(15,2),(16,2),(17,3)] (by kernel_rfl) (by kernel_rfl) ⟨Zhw HI2.o.blk.drew HC2.o.drew,HRM.o.drew⟩ ?_;simp only[planNL,xq4,xq5]
   repeat (first|(refine Zan _ (by rfl) (fun W hW=>by (obtain⟨⟨x0,x1,x2,x3⟩,hlk⟩:=HLK.o W hW;go_simp;try with_reducible rfl)) ?_;simp only[Act.put,xq1,xq2,xq3])|(refine planN_off (by rfl) ?_;simp only[Act.put,xq1,xq2,xq3])|(refine planN_on0 _ (by rfl) (fun W hW=>by (go_simp;try with_reducible rfl)) ?_;simp only[Act.put,xq1,xq2,xq3]))
   refine Za4 ?_;go_wp2_with fail;obtain⟨w10,hw10⟩:=zG ((w2.alloc (.cells #[.int .i64 z] 3)).drew);rw[hw10];have HK10:Hid (Kept (fun _=>False) w2 w10):=zh (by rw[<-hw10];exact ((Kept.refl _ _).alloc _).drew);have HM10:Hid (MapIs Tryz.prog 9 okSl w10 rb n (mapG G)):=zh (HRM.o.kept HK10.o (fun h=>h));have HO10:Hid (w10.ownsRow 0 3 1 (.slice A8 N c8) N ((R x).flatMap intC)):=zh (owns_kept HOW.o HK10.o (fun _ _ h=>h));have HR10:Hid (RowIn w10 (w2.heap.size+1) 1 (some ⟨w2.heap.size,0,none⟩) 1 (intC z)):=zh (by rw[<-hw10];exact Zrv w2 z _);have HI10:Hid (PnIn w10 pb sb rb width added G R B n):=zh (HI2.o.kept HK10.o (fun _ _ h=>h));have HC10:Hid (Blk w10 cb 213 #[.string x,.int .i64 z]):=zh (HC2.o.kept HK10.o (fun h=>h));have HZ10:Hid (cb+2<=w10.heap.size):=zh (by rw[<-hw10];show cb+2<=(w2.alloc _).heap.size;have:=HCS.o;simp;omega);clear hw10;refine⟨⟨Zhw HI10.o.blk HC10.o,HM10.o⟩,?_⟩;refine Za4 ?_
   go_wp2_with (first
    | (at_builtin;refine Zaa _ rfl _ _ 200 rfl 0 3 i0 _ 1 8 Tryz.underlying200 hi0 hy0 hy1 hy2 rfl (by omega) (.slice A8 N c8) N _ rfl HO10.o (w2.heap.size+1) (some ⟨w2.heap.size,0,none⟩) 1 1 (intC z) rfl HR10.o (fun h=>by cases h) (fun u hu=>by unfold intC at hu;rw[List.mem_singleton]at hu;subst hu;rfl) (by unfold maxLen;omega) (by omega) (Nat.zero_le _) ?_;intro v11 w11 ho11 hg11 hv11))
   obtain⟨A9,c9,hv⟩:=own_shape ho11;subst hv;have HKX:Hid (Kept (fun q=>(Value.slice A8 N c8).ownBlock=some q) w10 w11):=zh ((Kept.refl _ _).grown hg11 (fun j hj=>Or.inl hj));have HM11:Hid (MapIs Tryz.prog 9 okSl w11 rb n (mapG G)):=zh (HM10.o.kept HKX.o (fun h=>Zbe HO10.o HM10.o h));have HB11:Hid (Blk w11 pb 195 #[.int .i64 width,.int .i64 added,.map (some sb),.map (some rb)]):=zh (HI10.o.blk.kept HKX.o (fun h=>Za1 HO10.o HI10.o.blk (by decide) h));have HC11:Hid (Blk w11 cb 213 #[.string x,.int .i64 z]):=zh (HC10.o.kept HKX.o (fun h=>Za1 HO10.o HC10.o (by decide) h));have HO11:=zh ho11;have HV11:Hid ((Value.slice A9 (N+1) c9).ownBlock=(Value.slice A8 N c8).ownBlock\/∃g,(Value.slice A9 (N+1) c9).ownBlock=some g/\w10.heap.size<=g):=zh (hv11.imp id (fun h=>⟨_,h,zr _⟩));clear ho11 hg11 hv11;refine⟨⟨Zhw HB11.o HC11.o,HM11.o⟩,?_⟩;refine Zai ?_
   go_wp2_with (first
    | (at_mapUpdate;refine Zag _ rfl _ _ _ 193 rfl 9 200 (string_keyed Tryz.underlying9) Tryz.underlying193 okSl rb n (mapG G) rfl HM11.o (by unfold maxLen;omega) _ (.slice A9 (N+1) c9) _ rfl rfl (WideMaps.keyOf_string_mk Tryz.underlying9 hx) rfl ?_;intro w12 hm12 hg12 hs12))
   refine Zaj ?_;go_wp2_with fail;go_meet;have hky:Kept (fun q=>q=rb) w11 w12:=(Kept.refl _ _).grown hg12 (fun j hj=>by cases hj;exact Or.inl rfl);have hk12:Kept (fun q=>q=rb\/(Value.slice A8 N c8).ownBlock=some q) w10 w12:=(HKX.o.mono (fun _ _ h=>Or.inr h)).trans' hky (fun _ _ h=>Or.inl h);have ho12:w12.ownsRow 0 3 1 (.slice A9 (N+1) c9) (N+1) ((R x).flatMap intC++intC z):=owns_kept HO11.o hky (fun g hg e=>Zbe HO11.o HM11.o (by rw[<-e];exact hg));have hgrp:GrpIn intC 1 3 w12 rb (n+1) 0 (updG G x (.slice A9 (N+1) c9)) (moreI R x z):=HI10.o.rows.more HNN.o HOLD.o hm12 hk12 ho12 HV11.o (by unfold moreI;rw[if_pos rfl]) (fun q hq=>by unfold moreI;rw[if_neg hq]);have hrbpb:pb≠rb:=fun e=>HI10.o.rows.map.ne_blk HI10.o.blk e.symm;have hrbcb:cb≠rb:=fun e=>HI10.o.rows.map.ne_blk HC10.o e.symm;have hz10:=HZ10.o;have hz12:=hk12.size;refine zh ⟨updG G x (.slice A9 (N+1) c9),moreI R x z,fun q=>B q\/(cb+1<=q/\q<w12.heap.size),⟨HB11.o.kept hky hrbpb,⟨HI10.o.few.1,by have:=HI10.o.few.2;omega⟩,HI10.o.wid,?_,hgrp,fun p=>?_,HI10.o.ne,Or.inl HI10.o.up,Or.inl HI10.o.us,Or.inl HI10.o.ur,fun p v g hp hg=>?_,fun q hq=>?_⟩,⟨fun q h=>Or.inl h,fun q h=>h.elim Or.inl (fun e=>Or.inr (by rw[HCB.o];omega))⟩,?_,HC11.o.kept hky hrbcb⟩
   ·refine (HI10.o.sums.kept hk12 (fun h=>?_)).mono (Nat.le_succ _);rcases h with h|h
    ·exact HI10.o.ne h
    ·obtain⟨Ms,hms⟩:=HI10.o.sums;exact Zbe HO10.o hms h
   ·unfold moreI;split
    ·rw[List.length_append,HNN.o];simp;omega
    ·have:=HI10.o.lens p;omega
   ·unfold updG at hp;by_cases e:p=x
    ·rw[if_pos e]at hp;cases hp;rcases HV11.o with hv|⟨g2,hv,hg2⟩
     ·rw[hg]at hv;exact Or.inl (HI10.o.ug _ _ g (HOLD.o g hv.symm).2 hv.symm)
     ·rw[hg]at hv;cases hv;have:=(hgrp.live (p:=x) (by unfold updG;rw[if_pos rfl]) hg).2.1;exact Or.inr ⟨by omega,by omega⟩
    ·rw[if_neg e]at hp;exact Or.inl (HI10.o.ug p v g hp hg)
   ·rcases hq with hq|hq
    ·have:=HI10.o.lt q hq;omega
    ·exact hq.2
   ·refine ((HK2.o.mono (fun _ _ h=>h.elim)).trans (HK10.o.mono (fun _ _ h=>h.elim))).trans' hk12 (fun i hi e=>?_);rcases e with rfl|e
    ·exact HI10.o.ur
    ·exact HI10.o.ug _ _ i (HOLD.o i e).2 e
 case rest=>
 obtain⟨w9,rfl⟩:=zH wc;obtain⟨G',R',B',hI9,hg9,hk9,hc9⟩:=hcut.o;obtain⟨M9,hM9⟩:=hI9.sums;have HI9:=zh hI9;have HG9:=zh hg9;have HK9:=zh hk9;have HC9:=zh hc9;have HM9:=zh hM9;clear hI9 hg9 hk9 hc9 hM9 hcut HI2 HC2 HK2 HCS;go_wp2_with fail;refine Zaq (fun W=>PnS W pb sb rb cb x z) [(0,1),(1,1),(2,1),(3,1),(4,1),(5,1),(6,1),(7,1),(8,3)] (by kernel_rfl) (by kernel_rfl) (Zhw HI9.o.blk.drew HC9.o.drew) ?_;simp only[planNL,xq4,xq5]
 repeat (first|(refine Zan _ (by rfl) (fun W hW=>by (obtain⟨x0,x1,x2,x3⟩:=hW;go_simp;try with_reducible rfl)) ?_;simp only[Act.put,xq1,xq2,xq3])|(refine planN_off (by rfl) ?_;simp only[Act.put,xq1,xq2,xq3])|(refine planN_on0 _ (by rfl) (fun W hW=>by (go_simp;try with_reducible rfl)) ?_;simp only[Act.put,xq1,xq2,xq3]))
 refine Zai ?_
 go_wp2_with (first
  | (at_mapUpdate;refine Zag _ rfl _ _ _ 192 rfl 213 2 celKeyed Tryz.underlying192 okInt sb (n+1) M9 rfl HM9.o.drew (by unfold maxLen;omega) _ _ _ rfl rfl (Zhv x z hx hz) rfl ?_;intro w12 hm12 hg12 hs12))
 refine Zaj ?_;go_end0;have hk:Kept (fun i=>i=sb) w9 w12:=((Kept.refl _ w9).drew).grown hg12 (fun j hj=>by cases hj;exact Or.inl rfl);have H:=HI9.o;refine⟨rfl,G',R',B',⟨H.blk.kept hk (fun e=>H.sums.ne_blk H.blk e.symm),⟨H.few.1,by have:=H.few.2;omega⟩,H.wid,⟨_,hm12⟩,(H.rows.kept hk (fun e=>H.ne e.symm) (fun p g v hp hg e=>?_)).mono (Nat.le_succ _),fun p=>Nat.le_succ_of_le (H.lens p),H.ne,H.up,H.us,H.ur,H.ug,fun q hq=>Nat.lt_of_lt_of_le (H.lt q hq) hk.size⟩,HG9.o,HK9.o.trans' hk (fun i hi e=>?_)⟩
 ·by_cases hr:R' p = []
  ·rw[H.rows.none_ p hr]at hp;cases hp
  ·obtain⟨g',cap,e1,e2,_⟩:=H.rows.some_ p hr;rw[e1]at hp;cases hp;obtain⟨Ms,hms⟩:=H.sums;exact Zbe e2 hms (by rw[<-e];exact hg)
 ·rcases HG9.o.new i (by rw[e];exact H.us) with h1|h1
  ·exact h1
  ·omega
end Go.Proofs.YtnpfaajhgghpgaaGreatDoor
namespace Go.Proofs.YtnpfaajhgghpgaaGreatDoor
open Go.Shelf Go.RowKit Go.Maps
theorem PnIn.row_ne {w:World}{pb sb rb n:Nat}{width added:Int}{G:ByteArray->Option Value}{R:ByteArray->List Int}{B:Nat->Prop}(h:PnIn w pb sb rb width added G R B n){p:ByteArray}{v:Value}{g:Nat}(hp:G p=some v)(hg:v.ownBlock=some g):g≠pb:=fun e=>by
 by_cases hr:R p = []
 ·rw[h.rows.none_ p hr]at hp;cases hp
 ·obtain⟨g',cap,e1,e2,_⟩:=h.rows.some_ p hr;rw[e1]at hp;cases hp;exact Za1 e2 h.blk (by decide) (by rw[<-e];exact hg)
def PnAdd (w:World)(pb:Nat)(B:Nat->Prop)(n:Nat)(e:Ending)(w':World):Prop:=e = .returned (.bool true)/\∃B',PnAt w' pb B' (n+3)/\Grows B B' w.heap.size/\Kept B w w'
theorem Zpe (w:World)(pb:Nat)(B:Nat->Prop)(n:Nat)(h:PnAt w pb B n)(x:ByteArray)(t v:Int)(hx:1<=x.size/\x.size<=24)(ht:0<=t/\t<=1099511627776)(hv:1<=v/\v<=1048576)(hn:n<=900000) :
  Calls Tryz.prog 92 #[.pointer (some ⟨pb,0,none⟩),.string x,.int .i64 t,.int .i64 v] w (PnAdd w pb B n):=by
 obtain⟨sb,rb,width,added,G,R,h⟩:=h;have hf:=h.few;have hwd:=h.wid;obtain⟨w1,hw1⟩:=zG (w.setCell ⟨pb,1,none⟩ (.int .i64 (added+1)));have HK:Hid (Kept (fun q=>q=pb) w w1):=zh (by rw[<-hw1];exact (Kept.refl (fun q=>q=pb) w).setCell (p:=⟨pb,1,none⟩) (Or.inl rfl) _);have HS:Hid (w1.heap.size=w.heap.size):=zh (by rw[<-hw1];simp[World.setCell])
 have HD:Hid (PnIn w1 pb sb rb width (added+1) G R B (n+1)):=zh (by
  refine⟨by rw[<-hw1];exact h.blk.set_ 1 _,by omega,h.wid,(h.sums.kept HK.o (fun e=>h.sums.ne_blk h.blk e)).mono (Nat.le_succ _),(h.rows.kept HK.o (fun e=>h.rows.map.ne_blk h.blk e) (fun p g v hp hg e=>h.row_ne hp hg e)).mono (Nat.le_succ _),fun p=>Nat.le_succ_of_le (h.lens p),h.ne,h.up,h.us,h.ur,h.ug,fun q hq=>Nat.lt_of_lt_of_le (h.lt q hq) HK.o.size⟩)
 have h1:0<=t / width:=Int.ediv_nonneg ht.1 (by omega);have h3:t / width<=t:=Int.ediv_le_self width ht.1;obtain⟨z,hz⟩:=zG (t / width);rw[hz]at h1 h3;have HOF:=zh (Zr8 pb width t w1 (HD.o.blk.cell 0) hwd ht);rw[hz]at HOF;have HP:=zh (Zpd w1 pb sb rb width (added+1) G R B (n+1) HD.o x z v (by unfold maxLen;omega) ⟨by omega,by omega⟩ hv.1 (by omega));have HBD:Hid (B pb):=zh h.up;have c1:w.cell? ⟨pb,1,none⟩=some (.int .i64 added):=h.blk.cell 1;have f1:w.frozen? ⟨pb,1,none⟩=false:=h.blk.frozen 1;have d1:decide ((x.size:Int)<1)=false:=decide_eq_false (by omega);have d2:decide (24<(x.size:Int))=false:=decide_eq_false (by omega);have d3:decide (t<0)=false:=decide_eq_false (by omega);have d4:decide ((1099511627776:Int)<t)=false:=decide_eq_false (by omega);have d5:decide (v<0)=false:=decide_eq_false (by omega);have d6:decide ((1048576:Int)<v)=false:=decide_eq_false (by omega);have d7:decide ((1048576:Int)<=added)=false:=decide_eq_false (by omega);clear h hz;go_enter Tryz.func92,Tryz.ntmps92;go_wp2_with fail;refine HOF.o.mono ?_;rintro e w2 ⟨rfl,rfl⟩;go_wp2_with fail;refine HP.o.mono ?_;rintro e w2 ⟨rfl,G',R',B',hd,hg,hk⟩;have HD2:=zh hd;have HG2:=zh hg;have HK2:=zh hk;have HW1:=zh hw1;clear hd hg hk hw1 c1 f1;go_wp2_with fail;go_ret;exact⟨rfl,B',⟨sb,rb,width,added+1,G',R',HD2.o⟩,by rw[<-HS.o];exact HG2.o,(HK.o.mono (fun q _ e=>by rw[e];exact HBD.o)).trans HK2.o⟩
end Go.Proofs.YtnpfaajhgghpgaaGreatDoor
namespace Go.Proofs.YtnpfaajhgghpgaaGreatDoor
open Go.Shelf Go.RowKit Go.Maps Go.Sort
open Classical in
noncomputable def okEv (v:Value):Bool:=decide (∃e:Ev,v=evA e)
open Classical in
theorem Zmu (e:Ev):okEv (evA e)=true:=by
 unfold okEv;exact decide_eq_true ⟨e,rfl⟩
open Classical in
theorem Zrg {v:Value}(h:okEv v=true):∃e:Ev,v=evA e:=by
 unfold okEv at h;exact of_decide_eq_true h
theorem Zb4 {a b:Ev}(h:evA a=evA b):a=b:=by
 cases a;cases b;unfold evA at h;simp only[Value.agg.injEq,Array.mk.injEq,List.cons.injEq,Value.string.injEq,Value.int.injEq,true_and,and_true]at h;obtain⟨h1,h2,h3,h4,h5,h6,h7,h8⟩:=h;subst h1 h2 h3 h4 h5 h6 h7 h8
 rfl
def IdOk (e:Ev):Prop:=e.src.size<=maxLen/\InR e.num
structure LeastIs (fm:Ev->ByteArray) (l:List Ev) (M:Lit->Option Value):Prop where
 inv:∀kl v,M kl=some v->∃e,v=evA e/\kl=litI e.src e.num/\lstG fm l e.src e.num=some e
 at_:∀s n,s.size<=maxLen->InR n->M (litI s n)=(lstG fm l s n).map evA
section
variable {fm : Ev -> ByteArray} {l : List Ev} {M : Lit -> Option Value}
theorem LeastIs.nil (fm:Ev->ByteArray):LeastIs fm [] (fun _=>none):=⟨fun _ _ h=>(by cases h),fun _ _ _ _=>rfl⟩
theorem LeastIs.set (h:LeastIs fm l M)(e:Ev)(he:IdOk e)(hb:lstV fm (lstG fm l e.src e.num) e=e):LeastIs fm (l++[e]) (upd M (litI e.src e.num) (evA e)):=by
 refine⟨fun kl v hv=>?_,fun s n hs hn=>?_⟩
 ·unfold upd at hv;by_cases hk:kl=litI e.src e.num
  ·subst hk;rw[WideAt.sameKey_self (by trivial),if_pos rfl]at hv;injection hv with hv;refine⟨e,hv.symm,rfl,?_⟩;rw[Zca];unfold lstStep;rw[if_pos ⟨rfl,rfl⟩,hb]
  ·rw[sameKey_ne hk,if_neg (by simp)]at hv;obtain⟨e',h1,h2,h3⟩:=h.inv kl v hv;refine⟨e',h1,h2,?_⟩;rw[Zca];unfold lstStep;rw[if_neg (fun hh=>hk (by rw[h2,hh.1,hh.2]))];exact h3
 ·rw[Zca];unfold upd lstStep;rw[Zht hs hn he.1 he.2];by_cases hk:s=e.src/\n=e.num
  ·rw[if_pos (by simp[hk]),if_pos hk,hb]
   rfl
  ·rw[if_neg (by simp[hk]),if_neg hk];exact h.at_ s n hs hn
theorem LeastIs.stay (h:LeastIs fm l M)(e:Ev)(hb:lstG fm l e.src e.num=some (lstV fm (lstG fm l e.src e.num) e)):LeastIs fm (l++[e]) M:=by
 have hE:lstG fm (l++[e])=lstG fm l:=by
  funext s n
  rw[Zca];unfold lstStep;split
  ·rename_i hk
   rw[hk.1,hk.2];exact hb.symm
  ·rfl
 exact⟨fun kl v hv=>by rw[hE];exact h.inv kl v hv,fun s n hs hn=>by rw[hE];exact h.at_ s n hs hn⟩
end
structure GoneIs (fm:Ev->ByteArray) (l:List Ev) (M:Lit->Option Value) (left:Lit->Bool) (S:ByteArray->Bool):Prop where
 of:∀p,S p=true->goneP fm l p
 all:∀kl e,M kl=some (evA e)->left kl=false->e.kind=14->S e.person=true
section
variable {fm : Ev -> ByteArray} {l : List Ev} {M : Lit -> Option Value} {left : Lit -> Bool} {S : ByteArray -> Bool}
theorem GoneIs.start (fm:Ev->ByteArray)(l:List Ev)(M:Lit->Option Value):GoneIs fm l M (fun kl=>(M kl).isSome) (fun _=>false):=
 ⟨fun _ h=>(by cases h),fun kl e h1 h2 _=>(by rw[h1]at h2;cases h2)⟩
theorem GoneIs.skip (h:GoneIs fm l M left S){kl:Lit}{e:Ev}(hM:M kl=some (evA e))(hk:e.kind≠14):GoneIs fm l M (fun x=>left x && !x.sameKey kl) S:=by
 refine⟨h.of,fun x e' h1 h2 h3=>?_⟩;by_cases hx:x=kl
 ·subst hx;rw[hM]at h1;injection h1 with h1;rw[<-Zb4 h1]at h3;exact absurd h3 hk
 ·rw[sameKey_ne hx]at h2;exact h.all x e' h1 (by simpa using h2) h3
theorem GoneIs.add (hL:LeastIs fm l M)(h:GoneIs fm l M left S){kl:Lit}{e:Ev}(hM:M kl=some (evA e))(hk:e.kind=14):GoneIs fm l M (fun x=>left x && !x.sameKey kl) (fun y=>S y || decide (y=e.person)):=by
 refine⟨fun p hp=>?_,fun x e' h1 h2 h3=>?_⟩
 ·rw[Bool.or_eq_true]at hp;rcases hp with hp|hp
  ·exact h.of p hp
  ·obtain⟨e2,h1,_,h3⟩:=hL.inv kl _ hM;rw[<-Zb4 h1]at h3;exact⟨e,h3,hk,(of_decide_eq_true hp).symm⟩
 ·by_cases hx:x=kl
  ·subst hx;rw[hM]at h1;injection h1 with h1;rw[<-Zb4 h1];simp
  ·rw[sameKey_ne hx]at h2;rw[h.all x e' h1 (by simpa using h2) h3]
   rfl
theorem GoneIs.done (hL:LeastIs fm l M)(h:GoneIs fm l M left S)(hl:∀kl,left kl=false)(hI:∀e∈l,IdOk e)(p:ByteArray):S p=true↔goneP fm l p:=by
 refine⟨h.of p,fun hg=>?_⟩;obtain⟨e,h1,h2,h3⟩:=hg;have hi:=hI e (Zbp h1).1;have:=h.all (litI e.src e.num) e (by rw[hL.at_ _ _ hi.1 hi.2,h1];rfl) (hl _) h2
 rwa [h3]at this
end
structure LeftIs (fm:Ev->ByteArray) (l:List Ev) (M:Lit->Option Value) (left:Lit->Bool) (acc:List Ev):Prop where
 mem:∀e,e∈acc↔M (litI e.src e.num)=some (evA e)/\left (litI e.src e.num)=false/\(e.kind=14\/¬goneP fm l e.person)
 ids:OneIds acc
section
variable {fm : Ev -> ByteArray} {l : List Ev} {M : Lit -> Option Value} {left : Lit -> Bool} {acc : List Ev}
theorem LeftIs.start (fm:Ev->ByteArray)(l:List Ev)(M:Lit->Option Value):LeftIs fm l M (fun kl=>(M kl).isSome) []:=
 ⟨fun e=>⟨fun h=>(by cases h),fun h=>(by have h1:=h.2.1;rw[h.1]at h1;cases h1)⟩,List.Pairwise.nil⟩
theorem LeftIs.key (hL:LeastIs fm l M){kl:Lit}{e:Ev}(hM:M kl=some (evA e)):kl=litI e.src e.num:=by
 obtain⟨e2,h1,h2,_⟩:=hL.inv kl _ hM;rw[Zb4 h1];exact h2
theorem LeftIs.skip (hL:LeastIs fm l M)(h:LeftIs fm l M left acc){kl:Lit}{e:Ev}(hM:M kl=some (evA e))(hk:¬(e.kind=14\/¬goneP fm l e.person)):LeftIs fm l M (fun x=>left x && !x.sameKey kl) acc:=by
 refine⟨fun e'=>?_,h.ids⟩;rw[h.mem];by_cases hx:litI e'.src e'.num=kl
 ·constructor
  ·rintro ⟨h1,h2,h3⟩;rw[hx,hM]at h1;injection h1 with h1;rw[<-Zb4 h1]at h3;exact absurd h3 hk
  ·rintro ⟨h1,h2,h3⟩;rw[hx,hM]at h1;injection h1 with h1;rw[<-Zb4 h1]at h3;exact absurd h3 hk
 ·rw[sameKey_ne hx];simp
theorem LeftIs.add (hL:LeastIs fm l M)(h:LeftIs fm l M left acc){kl:Lit}{e:Ev}(hM:M kl=some (evA e))(hlf:left kl=true)(hk:e.kind=14\/¬goneP fm l e.person):LeftIs fm l M (fun x=>left x && !x.sameKey kl) (acc++[e]):=by
 have hkey:=LeftIs.key hL hM;refine⟨fun e'=>?_,?_⟩
 ·rw[List.mem_append,h.mem];by_cases hx:litI e'.src e'.num=kl
  ·have hs:Lit.sameKey kl kl=true:=by rw[hkey];exact WideAt.sameKey_self (by trivial)
   constructor
   ·rintro (⟨h1,h2,h3⟩|h1)
    ·rw[hx,hlf]at h2;cases h2
    ·obtain rfl:e'=e:=by simpa using h1
     exact⟨by rw[hx];exact hM,by rw[hx,hs];simp,hk⟩
   ·rintro ⟨h1,_,_⟩;rw[hx,hM]at h1;injection h1 with h1;exact Or.inr (by rw[Zb4 h1];simp)
  ·rw[sameKey_ne hx];have hne:e' ∉ [e]:=fun hm=>hx (by obtain rfl:e'=e:=(by simpa using hm);exact hkey.symm);simp only[hne,or_false];simp
 ·refine List.pairwise_append.2 ⟨h.ids,List.pairwise_singleton _ _,fun a ha b hb hs=>?_⟩;obtain rfl:b=e:=by simpa using hb
  have h2:=((h.mem a).1 ha).2.1;rw[hs.1,hs.2,<-hkey,hlf]at h2;cases h2
theorem LeftIs.done (hL:LeastIs fm l M)(h:LeftIs fm l M left acc)(hl:∀kl,left kl=false)(hI:∀e∈l,IdOk e){E:List Ev}(hp:E.Perm acc)(hs:E.Pairwise fun a b=>ltOf cmpE b a=false):AnewIs fm l E:=by
 refine⟨Zmi hs ?_,fun e=>?_⟩
 ·have hsym:∀{x y:Ev},¬sameId x y->¬sameId y x:=fun hxy hyx=>hxy ⟨hyx.1.symm,hyx.2.symm⟩;exact (hp.pairwise_iff hsym).2 h.ids
 ·rw[hp.mem_iff,h.mem]
  constructor
  ·rintro ⟨h1,_,h3⟩;obtain⟨e2,h4,_,h5⟩:=hL.inv _ _ h1;rw[<-Zb4 h4]at h5;exact⟨h5,h3⟩
  ·rintro ⟨h1,h3⟩;have hi:=hI e (Zbp h1).1;exact⟨by rw[hL.at_ _ _ hi.1 hi.2,h1];rfl,hl _,h3⟩
end
section
variable {P : Program} (w : World) {ops : Array Oper} {rest : List Oper} {o : Oper} {a : Act} {Q : Exit -> Act -> World -> Prop}
theorem Zem {β:Type}(hg:o.guard=none)(it:Operand)(hop:o.op=Op.next it false)(k:TypeId)(K:Keyed P k)(ok:Value->Bool)(mkV:β->Value)(invV:∀v,ok v=true->∃c,v=mkV c)(b r n:Nat)(M:Lit->Option Value)(left:Lit->Bool)(cnt:Nat)
  (hit:a.eval it = .pointer (some ⟨r,0,none⟩)) (h:MapGoes P k ok w b r n M left cnt)
  (hDone:cnt=0->(∀kl,left kl=false)->wpList P ops Q rest (a.put o.dst (.tuple #[.bool false])) w)
  (hMore:∀(key:Value) (kl:Lit) (c:β) (w':World) (cnt':Nat),left kl=true->M kl=some (mkV c)->MapGoes P k ok w' b r n M (fun z=>left z && !z.sameKey kl) cnt'->cnt'<cnt ->
   w.grownBy w' (some r)->w'.heap.size=w.heap.size->(Instr.entry (.pointer (some ⟨r,0,none⟩))).run P w' = .ok (.tuple #[key,mkV c]) w'->wpList P ops Q rest (a.put o.dst (.tuple #[.bool true,key,mkV c])) w') :
  wpList P ops Q (o::rest) a w:=by
 refine wpList_plain hg fun K' hK'=>?_;unfold Oper.wp;rcases h.next K o.type with ⟨h0,hl,hrun⟩|⟨key,v,kl,w',cnt',hkey,hlk,hv,hat,hrun,hrg,hlt,hgr,hsz,hen⟩
 ·simp[execOp,hop,hit,hrun,Result.andThen];exact hK' _ _ (hDone h0 hl)
 ·obtain⟨c,rfl⟩:=invV v hv;simp[execOp,hop,hit,hrun,Result.andThen];exact hK' _ _ (hMore key kl c w' cnt' hlk hat hrg hlt hgr hsz hen)
end
end Go.Proofs.YtnpfaajhgghpgaaGreatDoor

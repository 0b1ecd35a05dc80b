/- A part of the joined base. -/
import Derived.Test.YthdmpcnnbminlaaGreatDoorV21
set_option linter.unusedVariables false
set_option maxHeartbeats 8000000
set_option maxRecDepth 100000
namespace Go.Proofs.YthdmpcnnbminlaaGreatDoor.Ru
open Go.RowKit Go.Maps Go.Shelf
structure Fz where
 name:ByteArray
 maker:ByteArray
 tags:ByteArray
 stock:Int
 price:Int
 born:Int
 listed:Bool
 now:Int
 age:Int
 fans:Int
 follows:Bool
 done:Bool
abbrev FAC:TypeId:=38
def fzA (z:Fz):Array Value:=#[.string z.name,.string z.maker,.string z.tags,.int .i64 z.stock,.int .i64 z.price,.int .i64 z.born,.bool z.listed,.int .i64 z.now,.int .i64 z.age,.int .i64 z.fans,.bool z.follows,.bool z.done]
def fzT (z:Fz):List ByteArray:=evTags ((⟨#[59]⟩:ByteArray)++z.tags)
def fzX (z:Fz):Fx:=⟨z.maker,fzT z,z.price,z.stock,z.age,z.fans,z.done,z.follows⟩
def ROf (b:Bool) (w:World) (e:Ending) (w':World):Prop:=e = .returned (.bool b)∧Below w.heap.size w w'
structure FzAt (w:World) (p:Nat) (z:Fz):Prop where
 c1:w.cell? ⟨p,1,none⟩=some (.string z.maker)
 c2:w.cell? ⟨p,2,none⟩=some (.string z.tags)
 c3:w.cell? ⟨p,3,none⟩=some (.int .i64 z.stock)
 c4:w.cell? ⟨p,4,none⟩=some (.int .i64 z.price)
 c8:w.cell? ⟨p,8,none⟩=some (.int .i64 z.age)
 c9:w.cell? ⟨p,9,none⟩=some (.int .i64 z.fans)
 c10:w.cell? ⟨p,10,none⟩=some (.bool z.follows)
 c11:w.cell? ⟨p,11,none⟩=some (.bool z.done)
theorem fz_at {w:World} {p:Nat} {z:Fz} (h:Blk w p FAC (fzA z)):FzAt w p z:=⟨h.cell 1,h.cell 2,h.cell 3,h.cell 4,h.cell 8,h.cell 9,h.cell 10,h.cell 11⟩
theorem Zed {w:World} {p:Nat} {z:Fz} (h:Blk w p FAC (fzA z)):(loadVar FAC ⟨p,0,none⟩).run Tryz.prog w = .ok (.agg (fzA z)) w:=by
 have c0:=h.cell 0;have c1:=h.cell 1;have c2:=h.cell 2;have c3:=h.cell 3;have c4:=h.cell 4;have c5:=h.cell 5;have c6:=h.cell 6;have c7:=h.cell 7;have c8:=h.cell 8;have c9:=h.cell 9;have c10:=h.cell 10;have c11:=h.cell 11
 simp[fzA]at c0 c1 c2 c3 c4 c5 c6 c7 c8 c9 c10 c11
 unfold fzA loadVar
 go_simp
theorem Znc (z:Fz) (k:Nat) (less:Bool) (n:Nat) (hk:k<4) (w:World):Calls Tryz.prog 287 #[.agg #[.string (whatW k),.bool less,.int .i64 n],.agg (fzA z)] w (ROf (holdsL (fzX z) (.num k less n)) w):=by
 show Calls Tryz.prog 287 #[.agg #[.string (whatW k),.bool less,.int .i64 n],.agg #[.string z.name,.string z.maker,.string z.tags,.int .i64 z.stock,.int .i64 z.price,.int .i64 z.born,.bool z.listed,.int .i64 z.now,.int .i64 z.age,.int .i64 z.fans,.bool z.follows,.bool z.done]] w (ROf (holdsL (fzX z) (.num k less n)) w)
 have key:∀x:Int,(fzX z).val k=x→Hid ((less=true→(x<n→holdsL (fzX z) (.num k less n)=true)∧(¬x<n→holdsL (fzX z) (.num k less n)=false))∧(less=false→(n<x→holdsL (fzX z) (.num k less n)=true)∧(¬n<x→holdsL (fzX z) (.num k less n)=false))):=fun x hx=>zh (by
  have e:holdsL (fzX z) (.num k less n)=if less then decide (x<n) else decide ((n:Int)<x):=by rw[←hx];rfl
  rw[e]
  exact⟨fun h=>by subst h;exact⟨fun h=>decide_eq_true h,fun h=>decide_eq_false h⟩,fun h=>by subst h;exact⟨fun h=>decide_eq_true h,fun h=>decide_eq_false h⟩⟩)
 obtain⟨w1,hw1⟩:∃w1,w.alloc (.cells #[.string (whatW k),.bool less,.int .i64 n] 310)=w1:=⟨_,rfl⟩
 obtain⟨w2,hw2⟩:∃w2,w1.alloc (.cells #[.string z.name,.string z.maker,.string z.tags,.int .i64 z.stock,.int .i64 z.price,.int .i64 z.born,.bool z.listed,.int .i64 z.now,.int .i64 z.age,.int .i64 z.fans,.bool z.follows,.bool z.done] FAC)=w2:=⟨_,rfl⟩
 have z1:w1.heap.size=w.heap.size+1:=by rw[←hw1];simp
 have k1:Below w.heap.size w w1:=by rw[←hw1];exact (Below.refl _ _).alloc (zr _) _
 have k2:Below w1.heap.size w1 w2:=by rw[←hw2];exact (Below.refl _ _).alloc (zr _) _
 have HK:Hid (Below w.heap.size w w2∧w2.heap.size=w.heap.size+2):=zh ⟨k1.trans (k2.mono (by omega)),by rw[←hw2];simp[z1]⟩
 have HBX:Hid (Blk w2 w.heap.size 310 #[.string (whatW k),.bool less,.int .i64 n]):=zh (by
  have:Blk w1 w.heap.size 310 #[.string (whatW k),.bool less,.int .i64 n]:=by rw[←hw1];exact Blk.new _ _ _
  exact this.under k2)
 have HBF:Hid (Blk w2 (w.heap.size+1) FAC (fzA z)):=zh (by
  have:Blk w2 w1.heap.size FAC (fzA z):=by rw[←hw2];exact Blk.new _ _ _
  rwa [z1]at this)
 clear k1 k2
 obtain⟨n0,n1,n2,_,_,_⟩:=HBX.o.at3
 obtain⟨f1,f2,f3,f4,f8,f9,f10,f11⟩:=fz_at HBF.o
 obtain⟨b,hb⟩:∃b,holdsL (fzX z) (.num k less n)=b:=⟨_,rfl⟩
 rw[hb]at key ⊢
 clear hb
 rcases (show k=0∨k=1∨k=2∨k=3 by omega) with rfl|rfl|rfl|rfl
 ·have HX:=key z.price rfl
  clear key
  have e0:whatW 0=⟨#[112,114,105,99,101]⟩:=rfl
  rw[e0]at n0 hw1 ⊢
  have n0':w2.cell? ⟨w.heap.size,0,none⟩=some (.string ⟨#[112,114,105,99,101]⟩):=n0
  clear e0 n0
  cases less
  ·by_cases h:(n:Int)<z.price
   ·have HR:Hid (b=true):=zh ((HX.o.2 rfl).1 h)
    go_enter Tryz.func287,Tryz.ntmps287
    go_wp2_with fail
    go_ret
    exact⟨Zab HR.o.symm,HK.o.1⟩
   ·have HR:Hid (b=false):=zh ((HX.o.2 rfl).2 h)
    go_enter Tryz.func287,Tryz.ntmps287
    go_wp2_with fail
    go_ret
    exact⟨Zab HR.o.symm,HK.o.1⟩
  ·by_cases h:z.price<(n:Int)
   ·have HR:Hid (b=true):=zh ((HX.o.1 rfl).1 h)
    go_enter Tryz.func287,Tryz.ntmps287
    go_wp2_with fail
    go_ret
    exact⟨Zab HR.o.symm,HK.o.1⟩
   ·have HR:Hid (b=false):=zh ((HX.o.1 rfl).2 h)
    go_enter Tryz.func287,Tryz.ntmps287
    go_wp2_with fail
    go_ret
    exact⟨Zab HR.o.symm,HK.o.1⟩
 ·have HX:=key z.stock rfl
  clear key
  have e0:whatW 1=⟨#[115,116,111,99,107]⟩:=rfl
  rw[e0]at n0 hw1 ⊢
  have n0':w2.cell? ⟨w.heap.size,0,none⟩=some (.string ⟨#[115,116,111,99,107]⟩):=n0
  clear e0 n0
  cases less
  ·by_cases h:(n:Int)<z.stock
   ·have HR:Hid (b=true):=zh ((HX.o.2 rfl).1 h)
    go_enter Tryz.func287,Tryz.ntmps287
    go_wp2_with fail
    go_ret
    exact⟨Zab HR.o.symm,HK.o.1⟩
   ·have HR:Hid (b=false):=zh ((HX.o.2 rfl).2 h)
    go_enter Tryz.func287,Tryz.ntmps287
    go_wp2_with fail
    go_ret
    exact⟨Zab HR.o.symm,HK.o.1⟩
  ·by_cases h:z.stock<(n:Int)
   ·have HR:Hid (b=true):=zh ((HX.o.1 rfl).1 h)
    go_enter Tryz.func287,Tryz.ntmps287
    go_wp2_with fail
    go_ret
    exact⟨Zab HR.o.symm,HK.o.1⟩
   ·have HR:Hid (b=false):=zh ((HX.o.1 rfl).2 h)
    go_enter Tryz.func287,Tryz.ntmps287
    go_wp2_with fail
    go_ret
    exact⟨Zab HR.o.symm,HK.o.1⟩
 ·have HX:=key z.age rfl
  clear key
  have e0:whatW 2=⟨#[97,103,101]⟩:=rfl
  rw[e0]at n0 hw1 ⊢
  have n0':w2.cell? ⟨w.heap.size,0,none⟩=some (.string ⟨#[97,103,101]⟩):=n0
  clear e0 n0
  cases less
  ·by_cases h:(n:Int)<z.age
   ·have HR:Hid (b=true):=zh ((HX.o.2 rfl).1 h)
    go_enter Tryz.func287,Tryz.ntmps287
    go_wp2_with fail
    go_ret
    exact⟨Zab HR.o.symm,HK.o.1⟩
   ·have HR:Hid (b=false):=zh ((HX.o.2 rfl).2 h)
    go_enter Tryz.func287,Tryz.ntmps287
    go_wp2_with fail
    go_ret
    exact⟨Zab HR.o.symm,HK.o.1⟩
  ·by_cases h:z.age<(n:Int)
   ·have HR:Hid (b=true):=zh ((HX.o.1 rfl).1 h)
    go_enter Tryz.func287,Tryz.ntmps287
    go_wp2_with fail
    go_ret
    exact⟨Zab HR.o.symm,HK.o.1⟩
   ·have HR:Hid (b=false):=zh ((HX.o.1 rfl).2 h)
    go_enter Tryz.func287,Tryz.ntmps287
    go_wp2_with fail
    go_ret
    exact⟨Zab HR.o.symm,HK.o.1⟩
 ·have HX:=key z.fans rfl
  clear key
  have e0:whatW 3=⟨#[102,97,110,115]⟩:=rfl
  rw[e0]at n0 hw1 ⊢
  have n0':w2.cell? ⟨w.heap.size,0,none⟩=some (.string ⟨#[102,97,110,115]⟩):=n0
  clear e0 n0
  cases less
  ·by_cases h:(n:Int)<z.fans
   ·have HR:Hid (b=true):=zh ((HX.o.2 rfl).1 h)
    go_enter Tryz.func287,Tryz.ntmps287
    go_wp2_with fail
    go_ret
    exact⟨Zab HR.o.symm,HK.o.1⟩
   ·have HR:Hid (b=false):=zh ((HX.o.2 rfl).2 h)
    go_enter Tryz.func287,Tryz.ntmps287
    go_wp2_with fail
    go_ret
    exact⟨Zab HR.o.symm,HK.o.1⟩
  ·by_cases h:z.fans<(n:Int)
   ·have HR:Hid (b=true):=zh ((HX.o.1 rfl).1 h)
    go_enter Tryz.func287,Tryz.ntmps287
    go_wp2_with fail
    go_ret
    exact⟨Zab HR.o.symm,HK.o.1⟩
   ·have HR:Hid (b=false):=zh ((HX.o.1 rfl).2 h)
    go_enter Tryz.func287,Tryz.ntmps287
    go_wp2_with fail
    go_ret
    exact⟨Zab HR.o.symm,HK.o.1⟩
theorem Zlj (z:Fz) (w:World):Calls Tryz.prog 285 #[.agg #[.string doneW],.agg (fzA z)] w (ROf (holdsL (fzX z) .done) w):=by
 show Calls Tryz.prog 285 #[.agg #[.string ⟨#[100,111,110,101]⟩],.agg #[.string z.name,.string z.maker,.string z.tags,.int .i64 z.stock,.int .i64 z.price,.int .i64 z.born,.bool z.listed,.int .i64 z.now,.int .i64 z.age,.int .i64 z.fans,.bool z.follows,.bool z.done]] w (ROf z.done w)
 obtain⟨w1,hw1⟩:∃w1,w.alloc (.cells #[.string ⟨#[100,111,110,101]⟩] 306)=w1:=⟨_,rfl⟩
 obtain⟨w2,hw2⟩:∃w2,w1.alloc (.cells #[.string z.name,.string z.maker,.string z.tags,.int .i64 z.stock,.int .i64 z.price,.int .i64 z.born,.bool z.listed,.int .i64 z.now,.int .i64 z.age,.int .i64 z.fans,.bool z.follows,.bool z.done] FAC)=w2:=⟨_,rfl⟩
 have z1:w1.heap.size=w.heap.size+1:=by rw[←hw1];simp
 have k1:Below w.heap.size w w1:=by rw[←hw1];exact (Below.refl _ _).alloc (zr _) _
 have k2:Below w1.heap.size w1 w2:=by rw[←hw2];exact (Below.refl _ _).alloc (zr _) _
 have HK:Hid (Below w.heap.size w w2∧w2.heap.size=w.heap.size+2):=zh ⟨k1.trans (k2.mono (by omega)),by rw[←hw2];simp[z1]⟩
 have HBX:Hid (Blk w2 w.heap.size 306 #[.string ⟨#[100,111,110,101]⟩]):=zh (by
  have:Blk w1 w.heap.size 306 #[.string ⟨#[100,111,110,101]⟩]:=by rw[←hw1];exact Blk.new _ _ _
  exact this.under k2)
 have HBF:Hid (Blk w2 (w.heap.size+1) FAC (fzA z)):=zh (by
  have:Blk w2 w1.heap.size FAC (fzA z):=by rw[←hw2];exact Blk.new _ _ _
  rwa [z1]at this)
 clear k1 k2
 have n0:w2.cell? ⟨w.heap.size,0,none⟩=some (.string ⟨#[100,111,110,101]⟩):=HBX.o.cell 0
 obtain⟨f1,f2,f3,f4,f8,f9,f10,f11⟩:=fz_at HBF.o
 go_enter Tryz.func285,Tryz.ntmps285
 go_wp2_with fail
 go_ret
 exact⟨rfl,HK.o.1⟩
theorem Zg4 (z:Fz) (w:World):Calls Tryz.prog 285 #[.agg #[.string followsW],.agg (fzA z)] w (ROf (holdsL (fzX z) .follows) w):=by
 show Calls Tryz.prog 285 #[.agg #[.string ⟨#[102,111,108,108,111,119,115]⟩],.agg #[.string z.name,.string z.maker,.string z.tags,.int .i64 z.stock,.int .i64 z.price,.int .i64 z.born,.bool z.listed,.int .i64 z.now,.int .i64 z.age,.int .i64 z.fans,.bool z.follows,.bool z.done]] w (ROf z.follows w)
 obtain⟨w1,hw1⟩:∃w1,w.alloc (.cells #[.string ⟨#[102,111,108,108,111,119,115]⟩] 306)=w1:=⟨_,rfl⟩
 obtain⟨w2,hw2⟩:∃w2,w1.alloc (.cells #[.string z.name,.string z.maker,.string z.tags,.int .i64 z.stock,.int .i64 z.price,.int .i64 z.born,.bool z.listed,.int .i64 z.now,.int .i64 z.age,.int .i64 z.fans,.bool z.follows,.bool z.done] FAC)=w2:=⟨_,rfl⟩
 have z1:w1.heap.size=w.heap.size+1:=by rw[←hw1];simp
 have k1:Below w.heap.size w w1:=by rw[←hw1];exact (Below.refl _ _).alloc (zr _) _
 have k2:Below w1.heap.size w1 w2:=by rw[←hw2];exact (Below.refl _ _).alloc (zr _) _
 have HK:Hid (Below w.heap.size w w2∧w2.heap.size=w.heap.size+2):=zh ⟨k1.trans (k2.mono (by omega)),by rw[←hw2];simp[z1]⟩
 have HBX:Hid (Blk w2 w.heap.size 306 #[.string ⟨#[102,111,108,108,111,119,115]⟩]):=zh (by
  have:Blk w1 w.heap.size 306 #[.string ⟨#[102,111,108,108,111,119,115]⟩]:=by rw[←hw1];exact Blk.new _ _ _
  exact this.under k2)
 have HBF:Hid (Blk w2 (w.heap.size+1) FAC (fzA z)):=zh (by
  have:Blk w2 w1.heap.size FAC (fzA z):=by rw[←hw2];exact Blk.new _ _ _
  rwa [z1]at this)
 clear k1 k2
 have n0:w2.cell? ⟨w.heap.size,0,none⟩=some (.string ⟨#[102,111,108,108,111,119,115]⟩):=HBX.o.cell 0
 obtain⟨f1,f2,f3,f4,f8,f9,f10,f11⟩:=fz_at HBF.o
 go_enter Tryz.func285,Tryz.ntmps285
 go_wp2_with fail
 go_ret
 exact⟨rfl,HK.o.1⟩
theorem Zi9 (z:Fz) (x:ByteArray) (w:World):Calls Tryz.prog 286 #[.agg #[.string makerW,.string x],.agg (fzA z)] w (ROf (holdsL (fzX z) (.maker x)) w):=by
 show Calls Tryz.prog 286 #[.agg #[.string ⟨#[109,97,107,101,114]⟩,.string x],.agg #[.string z.name,.string z.maker,.string z.tags,.int .i64 z.stock,.int .i64 z.price,.int .i64 z.born,.bool z.listed,.int .i64 z.now,.int .i64 z.age,.int .i64 z.fans,.bool z.follows,.bool z.done]] w (ROf (holdsL (fzX z) (.maker x)) w)
 obtain⟨w1,hw1⟩:∃w1,w.alloc (.cells #[.string ⟨#[109,97,107,101,114]⟩,.string x] 308)=w1:=⟨_,rfl⟩
 obtain⟨w2,hw2⟩:∃w2,w1.alloc (.cells #[.string z.name,.string z.maker,.string z.tags,.int .i64 z.stock,.int .i64 z.price,.int .i64 z.born,.bool z.listed,.int .i64 z.now,.int .i64 z.age,.int .i64 z.fans,.bool z.follows,.bool z.done] FAC)=w2:=⟨_,rfl⟩
 have z1:w1.heap.size=w.heap.size+1:=by rw[←hw1];simp
 have k1:Below w.heap.size w w1:=by rw[←hw1];exact (Below.refl _ _).alloc (zr _) _
 have k2:Below w1.heap.size w1 w2:=by rw[←hw2];exact (Below.refl _ _).alloc (zr _) _
 have HK:Hid (Below w.heap.size w w2∧w2.heap.size=w.heap.size+2):=zh ⟨k1.trans (k2.mono (by omega)),by rw[←hw2];simp[z1]⟩
 have HBX:Hid (Blk w2 w.heap.size 308 #[.string ⟨#[109,97,107,101,114]⟩,.string x]):=zh (by
  have:Blk w1 w.heap.size 308 #[.string ⟨#[109,97,107,101,114]⟩,.string x]:=by rw[←hw1];exact Blk.new _ _ _
  exact this.under k2)
 have HBF:Hid (Blk w2 (w.heap.size+1) FAC (fzA z)):=zh (by
  have:Blk w2 w1.heap.size FAC (fzA z):=by rw[←hw2];exact Blk.new _ _ _
  rwa [z1]at this)
 clear k1 k2
 have n0:w2.cell? ⟨w.heap.size,0,none⟩=some (.string ⟨#[109,97,107,101,114]⟩):=HBX.o.cell 0
 have n1:w2.cell? ⟨w.heap.size,1,none⟩=some (.string x):=HBX.o.cell 1
 obtain⟨f1,f2,f3,f4,f8,f9,f10,f11⟩:=fz_at HBF.o
 by_cases h:z.maker=x
 ·have HR:Hid (holdsL (fzX z) (.maker x)=true):=zh (decide_eq_true h)
  have q1:(z.maker.toList == x.toList)=true:=(Zbw _ _).2 h
  rw[HR.o]
  clear h
  go_enter Tryz.func286,Tryz.ntmps286
  go_wp2_with fail
  go_ret
  exact⟨Zab (by first|rfl|exact q1),HK.o.1⟩
 ·have HR:Hid (holdsL (fzX z) (.maker x)=false):=zh (decide_eq_false h)
  have q1:(z.maker.toList == x.toList)=false:=Bool.eq_false_iff.2 (fun e=>h ((Zbw _ _).1 e))
  rw[HR.o]
  clear h
  go_enter Tryz.func286,Tryz.ntmps286
  go_wp2_with fail
  go_ret
  exact⟨Zab (by first|rfl|exact q1),HK.o.1⟩
theorem Zf2 (s:ByteArray):(parts s).length≤s.size+1:=by
 rw[Zli]
 have:=Lib.countB_le ⟨#[44]⟩ (by decide) _ s (zr _)
 omega
theorem Znd (z:Fz) (x:ByteArray) (w:World) (hz:z.tags.size≤900000) (hg:GlobAt w):Calls Tryz.prog 286 #[.agg #[.string tagW,.string x],.agg (fzA z)] w (ROf (holdsL (fzX z) (.tag x)) w):=by
 show Calls Tryz.prog 286 #[.agg #[.string ⟨#[116,97,103]⟩,.string x],.agg #[.string z.name,.string z.maker,.string z.tags,.int .i64 z.stock,.int .i64 z.price,.int .i64 z.born,.bool z.listed,.int .i64 z.now,.int .i64 z.age,.int .i64 z.fans,.bool z.follows,.bool z.done]] w (ROf (holdsL (fzX z) (.tag x)) w)
 have HM:Hid (holdsL (fzX z) (.tag x)=memB x (fzT z)):=zh (by
  by_cases h:x∈fzT z
  ·rw[(Zbb _ _).2 h]
   classical exact decide_eq_true h
  ·rw[show memB x (fzT z)=false from Bool.eq_false_iff.2 (fun e=>h ((Zbb _ _).1 e))]
   classical exact decide_eq_false h)
 rw[HM.o]
 obtain⟨w1,hw1⟩:∃w1,w.alloc (.cells #[.string ⟨#[116,97,103]⟩,.string x] 308)=w1:=⟨_,rfl⟩
 obtain⟨w2,hw2⟩:∃w2,w1.alloc (.cells #[.string z.name,.string z.maker,.string z.tags,.int .i64 z.stock,.int .i64 z.price,.int .i64 z.born,.bool z.listed,.int .i64 z.now,.int .i64 z.age,.int .i64 z.fans,.bool z.follows,.bool z.done] FAC)=w2:=⟨_,rfl⟩
 have z1:w1.heap.size=w.heap.size+1:=by rw[←hw1];simp
 have k1:Below w.heap.size w w1:=by rw[←hw1];exact (Below.refl _ _).alloc (zr _) _
 have k2:Below w1.heap.size w1 w2:=by rw[←hw2];exact (Below.refl _ _).alloc (zr _) _
 have HK:Hid (Below w.heap.size w w2∧w2.heap.size=w.heap.size+2):=zh ⟨k1.trans (k2.mono (by omega)),by rw[←hw2];simp[z1]⟩
 have HBX:Hid (Blk w2 w.heap.size 308 #[.string ⟨#[116,97,103]⟩,.string x]):=zh (by
  have:Blk w1 w.heap.size 308 #[.string ⟨#[116,97,103]⟩,.string x]:=by rw[←hw1];exact Blk.new _ _ _
  exact this.under k2)
 have HBF:Hid (Blk w2 (w.heap.size+1) FAC (fzA z)):=zh (by
  have:Blk w2 w1.heap.size FAC (fzA z):=by rw[←hw2];exact Blk.new _ _ _
  rwa [z1]at this)
 clear k1 k2
 have n0:w2.cell? ⟨w.heap.size,0,none⟩=some (.string ⟨#[116,97,103]⟩):=HBX.o.cell 0
 obtain⟨f1,f2,f3,f4,f8,f9,f10,f11⟩:=fz_at HBF.o
 have hsz:((⟨#[59]⟩:ByteArray)++z.tags).size=1+z.tags.size:=by simp[ByteArray.size_append];rfl
 have HSZ:=zh hsz
 have HG2:Hid (GlobAt w2):=zh (hg.keep HK.o.1 (zr _))
 have HTG:=zh (Zfs ((⟨#[59]⟩:ByteArray)++z.tags) w2.drew (by show _<_;omega) HG2.o)
 have HTL:Hid ((fzT z).length≤1000000):=zh (by
  unfold fzT evTags
  split
  ·exact Nat.zero_le _
  ·have h1:=Zf2 (restP ((⟨#[59]⟩:ByteArray)++z.tags))
   have h2:=Ze5 ((⟨#[59]⟩:ByteArray)++z.tags)
   omega)
 clear hsz
 go_enter Tryz.func286,Tryz.ntmps286
 go_upto_region 3 with fail
 clear hw1 hw2 z1
 have HSC:Hid (∀W,Below w2.heap.size w2 W→W.cell? ⟨w.heap.size+1,2,none⟩=some (.string z.tags)∧W.cell? ⟨w.heap.size,1,none⟩=some (.string x)):=zh (fun W hW=>⟨(HBF.o.under hW).cell 2,(HBX.o.under hW).cell 1⟩)
 have HS0:Hid (Below w2.heap.size w2 w2.drew):=zh (below_drew (Below.refl _ _))
 have hz1:z.tags.size≤900000:=hz
 refine Zar (fun V=>Below w2.heap.size w2 V) [(0,false),(1,false),(2,false),(3,false),(5,false),(6,false),(4,true),(7,true),(8,false)] (by kernel_rfl) (by kernel_rfl) HS0.o ?_
 simp only[planL,List.getElem?_cons_zero,List.getElem?_cons_succ]
 repeat (first|(refine Zaf _ (by rfl) (fun W hW=>by (obtain⟨q2,q7⟩:=HSC.o W hW;go_simp;try (first|with_reducible rfl|rw[if_neg (by omega)]))) ?_;simp only[Act.put,xq1,xq2,xq3])|(refine Zac (by rfl) ?_;simp only[Act.put,xq1,xq2,xq3]))
 refine Zae ?_
 go_wp2_with fail
 refine HTG.o.mono ?_
 rintro e w3 ⟨A,c,rfl,hrow,hnc,hb3⟩
 have HB3:Hid (Below w2.heap.size w2 w3):=zh (HS0.o.trans (hb3.mono (zr _)))
 have HCO:=zh (contains_any w3 w3.heap.size A (fzT z) (fzT z).length c x rfl hrow HTL.o)
 obtain⟨q,hq⟩:∃q,(evTags ((⟨#[59]⟩:ByteArray)++z.tags)).length=q:=⟨_,rfl⟩
 have hq2:(fzT z).length=q:=hq
 rw[hq2]at HCO
 rw[hq]
 clear hrow hnc hb3 HTG hq hq2
 go_wp2_with fail
 refine⟨HB3.o,?_⟩
 repeat (first|(refine Zaf _ (by rfl) (fun W hW=>by (obtain⟨q2,q7⟩:=HSC.o W hW;go_simp;try (first|with_reducible rfl|rw[if_neg (by omega)]))) ?_;simp only[Act.put,xq1,xq2,xq3])|(refine Zac (by rfl) ?_;simp only[Act.put,xq1,xq2,xq3]))
 refine Zae ?_
 go_wp2_with fail
 refine HCO.o.mono ?_
 rintro e w4 ⟨rfl,rfl⟩
 go_wp2_with fail
 refine⟨HB3.o,?_⟩
 repeat (first|(refine Zaf _ (by rfl) (fun W hW=>by (obtain⟨q2,q7⟩:=HSC.o W hW;go_simp;try (first|with_reducible rfl|rw[if_neg (by omega)]))) ?_;simp only[Act.put,xq1,xq2,xq3])|(refine Zac (by rfl) ?_;simp only[Act.put,xq1,xq2,xq3]))
 refine Zah ?_
 go_wp2_with fail
 go_ret
 exact⟨rfl,HK.o.1.trans (HB3.o.mono HK.o.1.size)⟩
end Go.Proofs.YthdmpcnnbminlaaGreatDoor.Ru

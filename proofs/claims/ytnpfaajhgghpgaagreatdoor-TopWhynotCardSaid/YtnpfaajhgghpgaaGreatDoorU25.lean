/- A part of the joined base. -/
import Derived.Test.YtnpfaajhgghpgaaGreatDoorU24
set_option linter.unusedVariables false
set_option maxHeartbeats 40000000
set_option maxRecDepth 100000
namespace Go.Proofs.YtnpfaajhgghpgaaGreatDoor
open Go.Shelf Go.RowKit Go.Lib Go.Sort
theorem Zkq (x y:Ev)(w:World):Calls Tryz.prog 45 #[evA x,evA y] w fun e w'=>e = .returned (.int .i64 (cmpE x y))/\∃o1 o2 o3,w'=(((w.alloc o1).alloc o2).alloc o3).drew:=by
 obtain⟨s1,n1,t1,k1,p1,i1,v1,x1⟩:=x;obtain⟨s2,n2,t2,k2,p2,i2,v2,x2⟩:=y;unfold evA;dsimp only;go_enter Tryz.func45,Tryz.ntmps45;go_wp2_with fail;refine Ze4 [15] (by kernel_rfl) (by kernel_rfl) ?_;simp only[wpText,Nat.sub_zero,List.take_succ_cons,List.take_zero,List.drop_succ_cons,List.drop_zero,Nat.reduceAdd]
 repeat ((with_reducible refine wpStill_step (fun K hK=>?_));go_simp;refine hK _ ?_;clear hK K)
 with_reducible refine wpStill_step (fun K hK=>?_)
 go_simp;refine⟨_,Zbn (Zes _ _ _),hK _ ?_⟩;clear hK K
 repeat ((with_reducible refine wpStill_step (fun K hK=>?_));go_simp;refine hK _ ?_;clear hK K)
 with_reducible refine wpStill_step (fun K hK=>?_)
 go_simp;refine⟨_,Zbn (Zjt _ _ _),hK _ ?_⟩;clear hK K
 repeat ((with_reducible refine wpStill_step (fun K hK=>?_));go_simp;refine hK _ ?_;clear hK K)
 with_reducible refine wpStill_step (fun K hK=>?_)
 go_simp;refine⟨_,Zbn (Zes _ _ _),hK _ ?_⟩;clear hK K
 with_reducible refine wpStill_nil ?_
 go_wp2_with fail
 with_reducible refine wpStill_step (fun K hK=>?_)
 go_simp;refine⟨_,Zbn (or_any _ 3 3 [cmpI t1 t2,cmpB s1 s2,cmpI n1 n2] _ rfl ?hcells (by omega)),hK _ ?_⟩
 case hcells=>
  intro j z hz;rcases j with _|_|_|j
  ·simp at hz;subst hz;simp[go_sem]
  ·simp at hz;subst hz;simp[go_sem]
  ·simp at hz;subst hz;simp[go_sem]
  ·simp at hz
 clear hK K
 repeat ((with_reducible refine wpStill_step (fun K hK=>?_));go_simp;refine hK _ ?_;clear hK K)
 with_reducible refine wpStill_nil ?_
 go_wp2_with fail;go_ret;exact⟨rfl,_,_,_,rfl⟩
theorem Zff (w:World)(o1 o2 o3:Obj):(((w.alloc o1).alloc o2).alloc o3).drew=grow (w.drewN 1) (#[o1]++#[o2]++#[o3]):=by
 rw[alloc_eq_grow,alloc_eq_grow,alloc_eq_grow,grow_grow,grow_grow]
 rfl
theorem Znp (blk off size:Nat)(w:World):CmpLays Tryz.prog 45 #[] evC 8 cmpE blk off size w:=
 fun _ _ _ _ x y=>(Zkq x y _).mono fun e w' ⟨he,o1,o2,o3,hw⟩=>⟨he,1,#[o1]++#[o2]++#[o3],by rw[hw];exact Zff _ o1 o2 o3⟩
theorem SbIn.cmp {w0 W:World}{blk off n:Nat}{d:Array Ev}(h:SbIn w0 blk off n d W)(x y:Ev):Calls Tryz.prog 45 #[evA x,evA y] W fun e w'=>e = .returned (.int .i64 (cmpE x y))/\SbIn w0 blk off n d w':=
 (Zkq x y W).mono fun e w' ⟨he,o1,o2,o3,hw⟩=>⟨he,by rw[hw,Zff W o1 o2 o3];exact h.grown _ _⟩
theorem Zkr {x y:Ev}(h:cmpE x y<0):ltOf cmpE x y=true:=decide_eq_true h
theorem lt_no {x y:Ev}(h:¬cmpE x y<0):ltOf cmpE x y=false:=decide_eq_false h
theorem Zqa (w0:World)(blk off n:Nat)(d0:Array Ev)(R:SbRow w0 blk off n d0)(cap:Nat)(a m b:Nat)(d:Array Ev)(W:World)(ham:a<m)(hmb:m<b)(hb:b<=n)(h:SbIn w0 blk off n d W)(s1:SortedIn (ltOf cmpE) a m d)(s2:SortedIn (ltOf cmpE) m b d)(hc:m=a+1) :
  Calls Tryz.prog 134 #[.slice (some ⟨blk,off,none⟩) n cap,.int .i64 a,.int .i64 m,.int .i64 b,.func (.func 45) #[] #[]] W fun e w'=>e = .returned (.tuple #[])/\∃d',(PermIn a b d d'/\SortedIn (ltOf cmpE) a b d')/\SbIn w0 blk off n d' w':=by
 have HR:=zh R;have HH:=zh h;have hn:=R.few;have HSA:=zh s1;have HSB:=zh s2;have HDZ:Hid (d.size=n):=zh h.size;have hq:((m:Int) - (a:Int) == 1)=true:=by simp;omega
 have HA1:=zh hc;have hba:(b:Int)<=(n:Int):=by omega
 have ha0:(0:Int)<=(a:Int):=by omega
 have han:(a:Int)<(n:Int):=by omega
 clear R h s1 s2 hc;go_enter Tryz.func134,Tryz.ntmps134;go_wp2_with fail;go_loopw [10,11] (fun vi vj wr=>∃(i j:Nat),i<=j/\j<=b/\m<=i/\vi = .int .i64 i/\vj = .int .i64 j/\Hid (Bis (fun c=>!ltOf cmpE d[c]! d[a]!) m b i j)/\Hid (SbIn w0 blk off n d wr)) (fun vi vj _=>(intOf vj).toNat - (intOf vi).toNat)
 case atStart=>exact⟨m,b,by omega,zr _,zr _,rfl,rfl,zh (Bis.start _ (by omega)),HH⟩
 case round=>
  obtain⟨i,j,hij,hjb,hmi,rfl,rfl,hbi,hw⟩:=hrel;by_cases hlt:i<j
  ·have hlt8:(i:Int)<(j:Int):=by omega
   obtain⟨c,hc⟩:=zG ((i+j) / 2);have HM2:Hid (((i:Int)+(j:Int)) / 2=(c:Int)):=zh (by omega);have hci:i<=c:=by omega
   have hcj:c<j:=by omega
   have hc0:(0:Int)<=(c:Int):=by omega
   have hcn:(c:Int)<(n:Int):=by omega
   have HMO:=zh (Zg6 Zdn HSB.o a);clear hc;have HEV:Hid (∀V,SbIn w0 blk off n d V->EvAt V blk (off+c*8) d[c]!/\EvAt V blk (off+a*8) d[a]!):=zh (fun V hV=>⟨hV.ev HR.o (by omega),hV.ev HR.o (by omega)⟩);have HCM:Hid (∀V,SbIn w0 blk off n d V->Calls Tryz.prog 45 #[evA d[c]!,evA d[a]!] V fun e w'=>e = .returned (.int .i64 (cmpE d[c]! d[a]!))/\SbIn w0 blk off n d w'):=zh (fun V hV=>hV.cmp _ _);obtain⟨z,hz⟩:∃z,cmpE d[c]! d[a]! = z:=⟨_,rfl⟩
   have HZ:=zh hz;rw[hz]at HCM;clear hz;obtain⟨⟨s1,n1,t1,k1,p1,i1,v1,x1⟩,hx⟩:∃x,d[c]! = x:=⟨_,rfl⟩
   obtain⟨⟨s2,n2,t2,k2,p2,i2,v2,x2⟩,hy⟩:∃x,d[a]! = x:=⟨_,rfl⟩
   rw[hx,hy]at HEV HCM;unfold evA at HCM;clear hx hy;have HS0:Hid (SbIn w0 blk off n d wr.drew):=zh hw.o.drew;go_upto_region 5 with fail;rw[HM2.o];refine Zar (fun V=>SbIn w0 blk off n d V) [(0,false),(1,false),(2,false),(3,false),(4,false),(5,false),(6,false),(7,false),(8,false),(9,true),(10,false)] (by kernel_rfl) (by kernel_rfl) HS0.o ?_;simp only[planL,xq4,xq5]
   repeat ((first|(refine Zaf _ (by rfl) (fun W hW=>by (obtain⟨⟨c0,c1,c2,c3,c4,c5,c6,c7⟩,f0,f1,f2,f3,f4,f5,f6,f7⟩:=HEV.o W hW;go_simp;try (first|with_reducible rfl|rw[if_neg (by omega)]))) ?_)|(refine Zac (by rfl) ?_));simp only[Act.put,xq1,xq2,xq3])
   refine Zae ?_;have HCC:=zh (HCM.o _ HS0.o);go_wp2_with fail;refine HCC.o.mono ?_;rintro e w1 ⟨rfl,hw1⟩;have HW1:=zh hw1;clear hw1 HCC HCM;go_wp2_with fail;refine⟨HW1.o,?_⟩
   repeat ((first|(refine Zaf _ (by rfl) (fun W hW=>by (obtain⟨⟨c0,c1,c2,c3,c4,c5,c6,c7⟩,f0,f1,f2,f3,f4,f5,f6,f7⟩:=HEV.o W hW;go_simp;try (first|with_reducible rfl|rw[if_neg (by omega)]))) ?_)|(refine Zac (by rfl) ?_));simp only[Act.put,xq1,xq2,xq3])
   refine Zah ?_;clear HEV;by_cases hz0:z<0
   ·have HNX:Hid (Bis (fun c=>!ltOf cmpE d[c]! d[a]!) m b (c+1) j):=zh (hbi.o.right HMO.o hci hcj (by rw[Zkr (by rw[HZ.o];exact hz0)];rfl));go_wp2_with fail;go_roundw
    case rel=>exact⟨c+1,j,by omega,hjb,by omega,by go_num,rfl,HNX,HW1⟩
    case measure=>simp[intOf];omega
   ·have HNX:Hid (Bis (fun c=>!ltOf cmpE d[c]! d[a]!) m b i c):=zh (hbi.o.left HMO.o hci hcj (by rw[lt_no (by rw[HZ.o];exact hz0)];rfl));go_wp2_with fail;go_roundw
    case rel=>exact⟨i,c,hci,by omega,hmi,rfl,rfl,HNX,HW1⟩
    case measure=>simp[intOf];omega
  ·have hlt8:¬(i:Int)<(j:Int):=by omega
   have HBI:Hid (Bis (fun c=>!ltOf cmpE d[c]! d[a]!) m b i i):=zh (by rw[show j=i by omega]at hbi;exact hbi.o);have hib:i<=b:=by omega
   obtain⟨wo,hwo⟩:∃wo,wo=wr:=⟨_,rfl⟩
   subst hwo;have HWO:=hw;clear hbi hlt hij hw;go_wp2_with fail;go_loopw [13] (fun vk wr=>∃(k:Nat) (dk:Array Ev),a<=k/\k+1<=i/\vk = .int .i64 k/\Hid (ShL a k d dk)/\Hid (SbIn w0 blk off n dk wr)) (fun vk _=>i - (intOf vk).toNat)
   case atStart=>exact⟨a,d,zr _,by omega,rfl,zh (ShL.start a d),HWO⟩
   case round=>
    obtain⟨k,dk,hak,hki,rfl,hsh,hw⟩:=hrel;by_cases hlt:k+1<i
    ·have hlt8:(k:Int)<(i:Int) - 1:=by omega
     have hk0:(0:Int)<=(k:Int):=by omega
     have hkn:(k:Int)<(n:Int):=by omega
     have e1:(k:Int)+1=((k+1:Nat):Int):=by omega
     have HNX:Hid (ShL a (k+1) d (swp dk k (k+1))):=zh (hsh.o.next hak (by rw[HDZ.o];omega));obtain⟨q,hqk⟩:=zG (k+1);have hq0:(0:Int)<=(q:Int):=by omega
     have hqn:(q:Int)<(n:Int):=by omega
     have wq:IntKind.i64.wrap (q:Int)=(q:Int):=by rw[IntKind.wrap_i64];omega
     have HQK:=zh hqk;rw[hqk]at e1 HNX;clear hqk;have HSW:Hid (∀V,SbIn w0 blk off n dk V->SbIn w0 blk off n (swp dk k q) ((V.setCells blk (off+k*8) (evC dk[q]!)).setCells blk (off+q*8) (evC dk[k]!))):=zh (fun V hV=>hV.swap HR.o (by have:=HQK.o;omega) (by have:=HQK.o;omega));have HEV:Hid (∀V,SbIn w0 blk off n dk V->EvAt V blk (off+k*8) dk[k]!/\EvAt V blk (off+q*8) dk[q]!):=zh (fun V hV=>⟨hV.ev HR.o (by have:=HQK.o;omega),hV.ev HR.o (by have:=HQK.o;omega)⟩);have HTH:Hid (∀V,SbIn w0 blk off n dk V->V.there blk (off+k*8) 8/\V.there blk (off+q*8) 8):=zh (fun V hV=>⟨hV.there HR.o (by have:=HQK.o;omega),hV.there HR.o (by have:=HQK.o;omega)⟩);obtain⟨⟨s1,n1,t1,k1,p1,i1,v1,x1⟩,hx⟩:∃x,dk[k]! = x:=⟨_,rfl⟩
     obtain⟨⟨s2,n2,t2,k2,p2,i2,v2,x2⟩,hy⟩:∃x,dk[q]! = x:=⟨_,rfl⟩
     rw[hx,hy]at HSW HEV;have HS0:Hid (SbIn w0 blk off n dk wr.drew):=zh hw.o.drew;have HT0:=zh (HTH.o _ HS0.o);clear hx hy HTH;go_upto_region 11 with fail;refine Zg8 (fun V=>SbIn w0 blk off n dk V) [(2,0),(3,0),(4,0),(0,1),(1,1),(5,1),(6,1),(7,1),(8,1),(9,1),(10,1),(11,1),(12,1),(13,1),(14,1),(15,3),(16,0),(17,3)] (by kernel_rfl) (by kernel_rfl) HS0.o ?_;simp only[planML,xq4,xq5]
     repeat ((first|(refine Zcd _ (by rfl) (fun W _=>by (go_simp;try (first|with_reducible rfl|rw[if_neg (by omega)]))) ?_)|(refine planM_off0 (by rfl) ?_));simp only[Act.put,xq1,xq2,xq3])
     repeat ((first|(refine Zg7 _ (by rfl) (fun W hW=>by (obtain⟨⟨c0,c1,c2,c3,c4,c5,c6,c7⟩,f0,f1,f2,f3,f4,f5,f6,f7⟩:=HEV.o W hW;go_simp;try (first|with_reducible rfl|rw[if_neg (by omega)]))) ?_)|(refine planM_off (by rfl) ?_));simp only[Act.put,xq1,xq2,xq3])
     refine Zbs ?_;refine Za2 _ rfl EVT _ _ rfl blk (off+k*8) #[.string s2,.int .i64 n2,.int .i64 t2,.int .i64 k2,.string p2,.string i2,.int .i64 v2,.string x2] rfl rfl HT0.o.1 (by kernel_rfl) (by simp[Value.oneCell']) ?_;refine wpList_nil ?_;simp only[Exit.then]
     repeat ((first|(refine Zcd _ (by rfl) (fun W _=>by (go_simp;try (first|with_reducible rfl|rw[if_neg (by omega)]))) ?_)|(refine planM_off0 (by rfl) ?_));simp only[Act.put,xq1,xq2,xq3])
     refine Zbs ?_;refine Za2 _ rfl EVT _ _ rfl blk (off+q*8) #[.string s1,.int .i64 n1,.int .i64 t1,.int .i64 k1,.string p1,.string i1,.int .i64 v1,.string x1] rfl rfl (World.there_setCells HT0.o.2 _ _ _) (by kernel_rfl) (by simp[Value.oneCell']) ?_;refine wpList_nil ?_;simp only[Exit.then];refine Zef ?_;have HEND:=zh (HSW.o _ HS0.o);unfold evC at HEND;clear HSW HT0 HEV;go_wp2_with fail;go_roundw
     case rel=>exact⟨q,_,by have:=HQK.o;omega,by have:=HQK.o;omega,by first|rfl|go_num,HNX,HEND⟩
     case measure=>have:=HQK.o;simp[intOf];omega
    ·have hlt8:¬(k:Int)<(i:Int) - 1:=by omega
     have hki2:k=i - 1:=by omega
     have HFIN:Hid (PermIn a b d dk/\SortedIn (ltOf cmpE) a b dk):=zh ⟨hsh.o.perm a b (zr _) (by omega) (by rw[HDZ.o];exact hb),Zls Zdn HA1.o hmb HSB.o HBI.o (by rw[<-hki2];exact hsh.o)⟩;clear hki2;go_wp2_with fail
     (try simp only[Exit.inBlock,Exit.then]);refine bodyPost_ret (results_none rfl _ _ _) rfl ?_
     exact⟨rfl,dk,HFIN.o,hw.o⟩
theorem Znq (w0:World)(blk off n:Nat)(d0:Array Ev)(R:SbRow w0 blk off n d0)(cap:Nat)(a m b:Nat)(d:Array Ev)(W:World)(ham:a<m)(hmb:m<b)(hb:b<=n)(h:SbIn w0 blk off n d W)(s1:SortedIn (ltOf cmpE) a m d)(s2:SortedIn (ltOf cmpE) m b d)(hna:m≠a+1)(hc:b=m+1) :
  Calls Tryz.prog 134 #[.slice (some ⟨blk,off,none⟩) n cap,.int .i64 a,.int .i64 m,.int .i64 b,.func (.func 45) #[] #[]] W fun e w'=>e = .returned (.tuple #[])/\∃d',(PermIn a b d d'/\SortedIn (ltOf cmpE) a b d')/\SbIn w0 blk off n d' w':=by
 have HR:=zh R;have HH:=zh h;have hn:=R.few;have HSA:=zh s1;have HSB:=zh s2;have HDZ:Hid (d.size=n):=zh h.size;have hq:((m:Int) - (a:Int) == 1)=false:=by simp;omega
 have hq2:((b:Int) - (m:Int) == 1)=true:=by simp;omega
 have HA1:=zh hc;have hba:(b:Int)<=(n:Int):=by omega
 have hm0:(0:Int)<=(m:Int):=by omega
 have hmn:(m:Int)<(n:Int):=by omega
 clear R h s1 s2 hc hna;go_enter Tryz.func134,Tryz.ntmps134;go_wp2_with fail;go_loopw [14,15] (fun vi vj wr=>∃(i j:Nat),i<=j/\j<=m/\a<=i/\vi = .int .i64 i/\vj = .int .i64 j/\Hid (Bis (fun c=>ltOf cmpE d[m]! d[c]!) a m i j)/\Hid (SbIn w0 blk off n d wr)) (fun vi vj _=>(intOf vj).toNat - (intOf vi).toNat)
 case atStart=>exact⟨a,m,by omega,zr _,zr _,rfl,rfl,zh (Bis.start _ (by omega)),HH⟩
 case round=>
  obtain⟨i,j,hij,hjm,hai,rfl,rfl,hbi,hw⟩:=hrel;by_cases hlt:i<j
  ·have hlt8:(i:Int)<(j:Int):=by omega
   obtain⟨c,hc⟩:=zG ((i+j) / 2);have HM2:Hid (((i:Int)+(j:Int)) / 2=(c:Int)):=zh (by omega);have hci:i<=c:=by omega
   have hcj:c<j:=by omega
   have hc0:(0:Int)<=(c:Int):=by omega
   have hcn:(c:Int)<(n:Int):=by omega
   have HMO:=zh (Zfn Zdn HSA.o m);clear hc;have HEV:Hid (∀V,SbIn w0 blk off n d V->EvAt V blk (off+m*8) d[m]!/\EvAt V blk (off+c*8) d[c]!):=zh (fun V hV=>⟨hV.ev HR.o (by omega),hV.ev HR.o (by omega)⟩);have HCM:Hid (∀V,SbIn w0 blk off n d V->Calls Tryz.prog 45 #[evA d[m]!,evA d[c]!] V fun e w'=>e = .returned (.int .i64 (cmpE d[m]! d[c]!))/\SbIn w0 blk off n d w'):=zh (fun V hV=>hV.cmp _ _);obtain⟨z,hz⟩:∃z,cmpE d[m]! d[c]! = z:=⟨_,rfl⟩
   have HZ:=zh hz;rw[hz]at HCM;clear hz;obtain⟨⟨s1,n1,t1,k1,p1,i1,v1,x1⟩,hx⟩:∃x,d[m]! = x:=⟨_,rfl⟩
   obtain⟨⟨s2,n2,t2,k2,p2,i2,v2,x2⟩,hy⟩:∃x,d[c]! = x:=⟨_,rfl⟩
   rw[hx,hy]at HEV HCM;unfold evA at HCM;clear hx hy;have HS0:Hid (SbIn w0 blk off n d wr.drew):=zh hw.o.drew;go_upto_region 17 with fail;rw[HM2.o];refine Zar (fun V=>SbIn w0 blk off n d V) [(0,false),(1,false),(2,false),(3,false),(4,false),(5,false),(6,false),(7,false),(8,false),(9,true),(10,false),(11,false)] (by kernel_rfl) (by kernel_rfl) HS0.o ?_;simp only[planL,xq4,xq5]
   repeat ((first|(refine Zaf _ (by rfl) (fun W hW=>by (obtain⟨⟨c0,c1,c2,c3,c4,c5,c6,c7⟩,f0,f1,f2,f3,f4,f5,f6,f7⟩:=HEV.o W hW;go_simp;try (first|with_reducible rfl|rw[if_neg (by omega)]))) ?_)|(refine Zac (by rfl) ?_));simp only[Act.put,xq1,xq2,xq3])
   refine Zae ?_;have HCC:=zh (HCM.o _ HS0.o);go_wp2_with fail;refine HCC.o.mono ?_;rintro e w1 ⟨rfl,hw1⟩;have HW1:=zh hw1;clear hw1 HCC HCM;go_wp2_with fail;refine⟨HW1.o,?_⟩
   repeat ((first|(refine Zaf _ (by rfl) (fun W hW=>by (obtain⟨⟨c0,c1,c2,c3,c4,c5,c6,c7⟩,f0,f1,f2,f3,f4,f5,f6,f7⟩:=HEV.o W hW;go_simp;try (first|with_reducible rfl|rw[if_neg (by omega)]))) ?_)|(refine Zac (by rfl) ?_));simp only[Act.put,xq1,xq2,xq3])
   refine Zah ?_;clear HEV;by_cases hz0:z<0
   ·rw[show (!decide (z<0))=false by simp[hz0]];have HNX:Hid (Bis (fun c=>ltOf cmpE d[m]! d[c]!) a m i c):=zh (hbi.o.left HMO.o hci hcj (Zkr (by rw[HZ.o];exact hz0)));go_wp2_with fail;go_roundw
    case rel=>exact⟨i,c,hci,by omega,hai,rfl,rfl,HNX,HW1⟩
    case measure=>simp[intOf];omega
   ·rw[show (!decide (z<0))=true by simp[hz0]];have HNX:Hid (Bis (fun c=>ltOf cmpE d[m]! d[c]!) a m (c+1) j):=zh (hbi.o.right HMO.o hci hcj (lt_no (by rw[HZ.o];exact hz0)));go_wp2_with fail;go_roundw
    case rel=>exact⟨c+1,j,by omega,hjm,by omega,by go_num,rfl,HNX,HW1⟩
    case measure=>simp[intOf];omega
  ·have hlt8:¬(i:Int)<(j:Int):=by omega
   have HBI:Hid (Bis (fun c=>ltOf cmpE d[m]! d[c]!) a m i i):=zh (by rw[show j=i by omega]at hbi;exact hbi.o);have him:i<=m:=by omega
   obtain⟨wo,hwo⟩:∃wo,wo=wr:=⟨_,rfl⟩
   subst hwo;have HWO:=hw;clear hbi hlt hij hw;go_wp2_with fail;go_loopw [17] (fun vk wr=>∃(k:Nat) (dk:Array Ev),i<=k/\k<=m/\vk = .int .i64 k/\Hid (ShR k m d dk)/\Hid (SbIn w0 blk off n dk wr)) (fun vk _=>(intOf vk).toNat)
   case atStart=>exact⟨m,d,him,zr _,rfl,zh (ShR.start m d),HWO⟩
   case round=>
    obtain⟨q,dk,hiq,hqm,rfl,hsh,hw⟩:=hrel;by_cases hlt:i<q
    ·have hlt8:(i:Int)<(q:Int):=by omega
     obtain⟨k,hqk⟩:∃k,k+1=q:=⟨q - 1,by omega⟩
     have hk0:(0:Int)<=(k:Int):=by omega
     have hkn:(k:Int)<(n:Int):=by omega
     have e1:(q:Int) - 1=(k:Int):=by omega
     have hq0:(0:Int)<=(q:Int):=by omega
     have hqn:(q:Int)<(n:Int):=by omega
     have HNX:Hid (ShR k m d (swp dk q k)):=zh (by rw[<-hqk]at hsh ⊢;exact hsh.o.next (by omega) (by rw[HDZ.o];omega));have wq:IntKind.i64.wrap (k:Int)=(k:Int):=by rw[IntKind.wrap_i64];omega
     have HQK:=zh hqk;clear hqk;have HSW:Hid (∀V,SbIn w0 blk off n dk V->SbIn w0 blk off n (swp dk q k) ((V.setCells blk (off+q*8) (evC dk[k]!)).setCells blk (off+k*8) (evC dk[q]!))):=zh (fun V hV=>hV.swap HR.o (by have:=HQK.o;omega) (by have:=HQK.o;omega));have HEV:Hid (∀V,SbIn w0 blk off n dk V->EvAt V blk (off+q*8) dk[q]!/\EvAt V blk (off+k*8) dk[k]!):=zh (fun V hV=>⟨hV.ev HR.o (by have:=HQK.o;omega),hV.ev HR.o (by have:=HQK.o;omega)⟩);have HTH:Hid (∀V,SbIn w0 blk off n dk V->V.there blk (off+q*8) 8/\V.there blk (off+k*8) 8):=zh (fun V hV=>⟨hV.there HR.o (by have:=HQK.o;omega),hV.there HR.o (by have:=HQK.o;omega)⟩);obtain⟨⟨s1,n1,t1,k1,p1,i1,v1,x1⟩,hx⟩:∃x,dk[q]! = x:=⟨_,rfl⟩
     obtain⟨⟨s2,n2,t2,k2,p2,i2,v2,x2⟩,hy⟩:∃x,dk[k]! = x:=⟨_,rfl⟩
     rw[hx,hy]at HSW HEV;have HS0:Hid (SbIn w0 blk off n dk wr.drew):=zh hw.o.drew;have HT0:=zh (HTH.o _ HS0.o);clear hx hy HTH;go_upto_region 23 with fail;refine Zg8 (fun V=>SbIn w0 blk off n dk V) [(2,0),(3,0),(4,0),(0,1),(1,1),(5,1),(6,1),(7,1),(8,1),(9,1),(10,1),(11,1),(12,1),(13,1),(14,1),(15,3),(16,0),(17,3)] (by kernel_rfl) (by kernel_rfl) HS0.o ?_;simp only[planML,xq4,xq5]
     repeat ((first|(refine Zcd _ (by rfl) (fun W _=>by (go_simp;try (first|with_reducible rfl|rw[if_neg (by omega)]))) ?_)|(refine planM_off0 (by rfl) ?_));simp only[Act.put,xq1,xq2,xq3])
     repeat ((first|(refine Zg7 _ (by rfl) (fun W hW=>by (obtain⟨⟨c0,c1,c2,c3,c4,c5,c6,c7⟩,f0,f1,f2,f3,f4,f5,f6,f7⟩:=HEV.o W hW;go_simp;try (first|with_reducible rfl|rw[if_neg (by omega)]))) ?_)|(refine planM_off (by rfl) ?_));simp only[Act.put,xq1,xq2,xq3])
     refine Zbs ?_;refine Za2 _ rfl EVT _ _ rfl blk (off+q*8) #[.string s2,.int .i64 n2,.int .i64 t2,.int .i64 k2,.string p2,.string i2,.int .i64 v2,.string x2] rfl rfl HT0.o.1 (by kernel_rfl) (by simp[Value.oneCell']) ?_;refine wpList_nil ?_;simp only[Exit.then]
     repeat ((first|(refine Zcd _ (by rfl) (fun W _=>by (go_simp;try (first|with_reducible rfl|rw[if_neg (by omega)]))) ?_)|(refine planM_off0 (by rfl) ?_));simp only[Act.put,xq1,xq2,xq3])
     refine Zbs ?_;refine Za2 _ rfl EVT _ _ rfl blk (off+k*8) #[.string s1,.int .i64 n1,.int .i64 t1,.int .i64 k1,.string p1,.string i1,.int .i64 v1,.string x1] rfl rfl (World.there_setCells HT0.o.2 _ _ _) (by kernel_rfl) (by simp[Value.oneCell']) ?_;refine wpList_nil ?_;simp only[Exit.then];refine Zef ?_;have HEND:=zh (HSW.o _ HS0.o);unfold evC at HEND;clear HSW HT0 HEV;go_wp2_with fail;go_roundw
     case rel=>exact⟨k,_,by have:=HQK.o;omega,by have:=HQK.o;omega,by first|rfl|go_num,HNX,HEND⟩
     case measure=>have:=HQK.o;simp[intOf];omega
    ·have hlt8:¬(i:Int)<(q:Int):=by omega
     have hqi:q=i:=by omega
     have HFIN:Hid (PermIn a b d dk/\SortedIn (ltOf cmpE) a b dk):=zh ⟨hsh.o.perm a b (by omega) (by have:=HA1.o;omega) (by rw[HDZ.o];exact hb),Zjd Zdn HA1.o ham HSA.o HBI.o (by rw[<-hqi];exact hsh.o)⟩;clear hqi;go_wp2_with fail
     (try simp only[Exit.inBlock,Exit.then]);refine bodyPost_ret (results_none rfl _ _ _) rfl ?_
     exact⟨rfl,dk,HFIN.o,hw.o⟩
theorem Zqb (w0:World)(blk off n:Nat)(d0:Array Ev)(R:SbRow w0 blk off n d0)(cap:Nat)(a m b:Nat)(d:Array Ev)(W:World)(ham:a<m)(hmb:m<b)(hb:b<=n)(h:SbIn w0 blk off n d W)(s1:SortedIn (ltOf cmpE) a m d)(s2:SortedIn (ltOf cmpE) m b d)(hmm:(a+b) / 2<m)(hna:m≠a+1)(hnb:b≠m+1)(ih:∀(a' m' b':Nat) (d:Array Ev) (W:World),b' - a'<b - a->a'<m'->m'<b'->b'<=n->SbIn w0 blk off n d W->SortedIn (ltOf cmpE) a' m' d->SortedIn (ltOf cmpE) m' b' d->Calls Tryz.prog 134 #[.slice (some ⟨blk,off,none⟩) n cap,.int .i64 a',.int .i64 m',.int .i64 b',.func (.func 45) #[] #[]] W fun e w'=>e = .returned (.tuple #[])/\∃d',(PermIn a' b' d d'/\SortedIn (ltOf cmpE) a' b' d')/\SbIn w0 blk off n d' w') :
  Calls Tryz.prog 134 #[.slice (some ⟨blk,off,none⟩) n cap,.int .i64 a,.int .i64 m,.int .i64 b,.func (.func 45) #[] #[]] W fun e w'=>e = .returned (.tuple #[])/\∃d',(PermIn a b d d'/\SortedIn (ltOf cmpE) a b d')/\SbIn w0 blk off n d' w':=by
 have HR:=zh R;have HH:=zh h;have hn:=R.few;have HSA:=zh s1;have HSB:=zh s2;have HDZ:Hid (d.size=n):=zh h.size;have hq:((m:Int) - (a:Int) == 1)=false:=by simp;omega
 have hq2:((b:Int) - (m:Int) == 1)=false:=by simp;omega
 have HIH:=zh ih;obtain⟨mid,hmid⟩:=zG ((a+b) / 2);have HMID:=zh hmid.symm;rw[hmid]at hmm;have HM1:Hid (((a:Int)+(b:Int)) / 2=(mid:Int)):=zh (by omega);have ham2:a<mid:=by omega
 have hmb2:mid<b:=by omega
 have h2a:2*mid<=a+b:=by omega
 have h2b:a+b<=2*mid+1:=by omega
 obtain⟨lo,hlo⟩:=zG (if mid<m then mid+m - b else a);obtain⟨hi,hhi⟩:=zG (if mid<m then mid else m);have HLO:=zh hlo.symm;have HHI:=zh hhi.symm;have hlh:a<=lo/\lo<=hi/\hi<=m/\hi<=mid/\mid+m<=b+lo:=by split at hlo <;> split at hhi <;> omega
 obtain⟨g1,g2,g3,g4,g5⟩:=hlh;have HPC:Hid (∀c,lo<=c->c<hi->m<=mid+m - 1 - c/\mid+m - 1 - c<b):=zh (fun c h1 h2=>by omega);clear R h s1 s2 hna hnb ih hmid;go_enter Tryz.func134,Tryz.ntmps134;go_upto_region 25 with fail;rw[HM1.o];have hmm8:(mid:Int)<(m:Int):=by omega
 have el:Hid ((mid:Int)+(m:Int) - (b:Int)=(lo:Int)):=zh (by rw[if_pos hmm]at hlo;omega);have eh:Hid (mid=hi):=zh (by rw[if_pos hmm]at hhi;exact hhi);clear hlo hhi hmm;go_wp2_with fail;go_loopw [20,21] (fun vi vj wr=>∃(i j:Nat),i<=j/\j<=hi/\lo<=i/\vi = .int .i64 i/\vj = .int .i64 j/\Hid (Bis (fun c=>ltOf cmpE d[mid+m - 1 - c]! d[c]!) lo hi i j)/\Hid (SbIn w0 blk off n d wr)) (fun vi vj _=>(intOf vj).toNat - (intOf vi).toNat)
 case atStart=>exact⟨lo,hi,by omega,zr _,zr _,congrArg (Value.int .i64) (by have:=el.o;omega),congrArg (Value.int .i64) (by have:=eh.o;omega),zh (Bis.start _ g2),HH⟩
 case round=>
  clear el eh hmm8;obtain⟨i,j,hij,hjm,hai,rfl,rfl,hbi,hw⟩:=hrel;by_cases hlt:i<j
  ·have hlt8:(i:Int)<(j:Int):=by omega
   obtain⟨c,hc⟩:=zG ((i+j) / 2);have HM2:Hid (((i:Int)+(j:Int)) / 2=(c:Int)):=zh (by omega);have hci:i<=c:=by omega
   have hcj:c<j:=by omega
   have hc0:(0:Int)<=(c:Int):=by omega
   have hcn:(c:Int)<(n:Int):=by omega
   have HMO:=zh (Zkp Zdn HSA.o HSB.o (p:=mid+m - 1) g1 g3 HPC.o);obtain⟨q,hqc⟩:=zG (mid+m - 1 - c);have HQ:=zh hqc;have hqb:=HPC.o c (by omega) (by omega);rw[hqc]at hqb;have hq0:(0:Int)<=(q:Int):=by omega
   have hqn:(q:Int)<(n:Int):=by omega
   have e1:(mid:Int)+(m:Int) - 1 - (c:Int)=(q:Int):=by omega
   have wq:IntKind.i64.wrap (q:Int)=(q:Int):=by rw[IntKind.wrap_i64];omega
   clear hc hqc;have HEV:Hid (∀V,SbIn w0 blk off n d V->EvAt V blk (off+q*8) d[q]!/\EvAt V blk (off+c*8) d[c]!):=zh (fun V hV=>⟨hV.ev HR.o (by omega),hV.ev HR.o (by omega)⟩);have HCM:Hid (∀V,SbIn w0 blk off n d V->Calls Tryz.prog 45 #[evA d[q]!,evA d[c]!] V fun e w'=>e = .returned (.int .i64 (cmpE d[q]! d[c]!))/\SbIn w0 blk off n d w'):=zh (fun V hV=>hV.cmp _ _);obtain⟨z,hz⟩:∃z,cmpE d[q]! d[c]! = z:=⟨_,rfl⟩
   have HZ:=zh hz;rw[hz]at HCM;clear hz;obtain⟨⟨s1,n1,t1,k1,p1,i1,v1,x1⟩,hx⟩:∃x,d[q]! = x:=⟨_,rfl⟩
   obtain⟨⟨s2,n2,t2,k2,p2,i2,v2,x2⟩,hy⟩:∃x,d[c]! = x:=⟨_,rfl⟩
   rw[hx,hy]at HEV HCM;unfold evA at HCM;clear hx hy;have HS0:Hid (SbIn w0 blk off n d wr.drew):=zh hw.o.drew;go_upto_region 35 with fail;rw[HM2.o];refine Zar (fun V=>SbIn w0 blk off n d V) [(0,false),(1,false),(2,false),(3,false),(4,false),(5,false),(6,false),(7,false),(8,false),(9,false),(10,false),(11,true),(12,false),(13,false)] (by kernel_rfl) (by kernel_rfl) HS0.o ?_;simp only[planL,xq4,xq5]
   repeat ((first|(refine Zaf _ (by rfl) (fun W hW=>by (obtain⟨⟨c0,c1,c2,c3,c4,c5,c6,c7⟩,f0,f1,f2,f3,f4,f5,f6,f7⟩:=HEV.o W hW;go_simp;try (first|with_reducible rfl|rw[if_neg (by omega)]))) ?_)|(refine Zac (by rfl) ?_));simp only[Act.put,xq1,xq2,xq3])
   refine Zae ?_;have HCC:=zh (HCM.o _ HS0.o);go_wp2_with fail;refine HCC.o.mono ?_;rintro e w1 ⟨rfl,hw1⟩;have HW1:=zh hw1;clear hw1 HCC HCM;go_wp2_with fail;refine⟨HW1.o,?_⟩
   repeat ((first|(refine Zaf _ (by rfl) (fun W hW=>by (obtain⟨⟨c0,c1,c2,c3,c4,c5,c6,c7⟩,f0,f1,f2,f3,f4,f5,f6,f7⟩:=HEV.o W hW;go_simp;try (first|with_reducible rfl|rw[if_neg (by omega)]))) ?_)|(refine Zac (by rfl) ?_));simp only[Act.put,xq1,xq2,xq3])
   refine Zah ?_;clear HEV;by_cases hz0:z<0
   ·rw[show (!decide (z<0))=false by simp[hz0]];have HNX:Hid (Bis (fun c=>ltOf cmpE d[mid+m - 1 - c]! d[c]!) lo hi i c):=zh (hbi.o.left HMO.o hci hcj (by show ltOf cmpE d[mid+m - 1 - c]! d[c]! = true;rw[HQ.o];exact Zkr (by rw[HZ.o];exact hz0)));go_wp2_with fail;go_roundw
    case rel=>exact⟨i,c,hci,by omega,hai,rfl,rfl,HNX,HW1⟩
    case measure=>simp[intOf];omega
   ·rw[show (!decide (z<0))=true by simp[hz0]];have HNX:Hid (Bis (fun c=>ltOf cmpE d[mid+m - 1 - c]! d[c]!) lo hi (c+1) j):=zh (hbi.o.right HMO.o hci hcj (by show ltOf cmpE d[mid+m - 1 - c]! d[c]! = false;rw[HQ.o];exact lt_no (by rw[HZ.o];exact hz0)));go_wp2_with fail;go_roundw
    case rel=>exact⟨c+1,j,by omega,hjm,by omega,by go_num,rfl,HNX,HW1⟩
    case measure=>simp[intOf];omega
  ·have hlt8:¬(i:Int)<(j:Int):=by omega
   have HBI:Hid (Bis (fun c=>ltOf cmpE d[mid+m - 1 - c]! d[c]!) lo hi i i):=zh (by rw[show j=i by omega]at hbi;exact hbi.o);have hihi:i<=hi:=by omega
   obtain⟨en,hen⟩:=zG (mid+m - i);have e2:(mid:Int)+(m:Int) - (i:Int)=(en:Int):=by omega
   have HEN:=zh hen;have hme:m<=en:=by omega
   have heb:en<=b:=by omega
   have HPT:Hid (∀d2,RotIn i m en d d2->Parted (ltOf cmpE) a mid b i en d d2):=zh (fun d2 hr=>by
    rw[<-HEN.o]at hr ⊢;exact Zf4 Zdn ham hmb (by rw[HDZ.o];exact hb) HSA.o HSB.o HMID.o HLO.o HHI.o HBI.o hr)
   have HWO:=hw;clear hbi hlt hij hw hen HPC;by_cases hrot:i<m/\m<en
   ·obtain⟨r1,r2⟩:=hrot;have r18:(i:Int)<(m:Int):=by omega
    have r28:(m:Int)<(en:Int):=by omega
    have HRO:=zh (Zf6 w0 blk off n d0 HR.o cap (.func (.func 45) #[] #[]) i m en d wr HWO.o r1 r2 (by omega));go_wp2_with fail;refine HRO.o.mono ?_;rintro e w1 ⟨rfl,d2,hro,hw1⟩;have HP:=zh (HPT.o d2 hro);have HW1:=zh hw1;clear HRO hro hw1 HPT HBI;by_cases hlf:a<i/\i<mid
    ·obtain⟨l1,l2⟩:=hlf;have l18:(a:Int)<(i:Int):=by omega
     have l28:(i:Int)<(mid:Int):=by omega
     have HLF:=zh (HIH.o a i mid d2 w1 (by omega) l1 l2 (by omega) HW1.o HP.o.p1 HP.o.p2);go_wp2_with fail;refine HLF.o.mono ?_;rintro e w2 ⟨rfl,d3,h3,hw2⟩;have H3:=zh h3;have HW2:=zh hw2;clear HLF h3 hw2;by_cases hrt:mid<en/\en<b
     ·obtain⟨m1,m2⟩:=hrt;have m18:(mid:Int)<(en:Int):=by omega
      have m28:(en:Int)<(b:Int):=by omega
      have HRT:=zh (HIH.o mid en b d3 w2 (by omega) m1 m2 hb HW2.o (PermIn.sorted_out H3.o.1 HP.o.p3 (Or.inr (zr _))) (PermIn.sorted_out H3.o.1 HP.o.p4 (Or.inr (by omega))));go_wp2_with fail
      all_goals (
       refine HRT.o.mono ?_;rintro e w3 ⟨rfl,d4,h4,hw3⟩;have HF:=zh (HP.o.done (by rw[HDZ.o];exact hb) (by omega) (by omega) H3.o h4);have HW3:=zh hw3;clear HRT h4 hw3;go_wp2_with fail
       all_goals go_end0
       all_goals exact⟨rfl,d4,HF.o,HW3.o⟩)
     ·have HF:=zh (HP.o.done (by rw[HDZ.o];exact hb) (by omega) (by omega) H3.o ⟨permIn_refl d3 _ _,Zam (PermIn.sorted_out H3.o.1 HP.o.p3 (Or.inr (zr _))) (PermIn.sorted_out H3.o.1 HP.o.p4 (Or.inr (by omega))) hrt ⟨by omega,heb⟩⟩);have m0:(¬(mid:Int)<(en:Int))\/((mid:Int)<(en:Int)/\¬(en:Int)<(b:Int)):=by omega
      clear hrt;rcases m0 with m0|⟨m0,m0'⟩
      ·go_wp2_with fail
       all_goals go_end0
       all_goals exact⟨rfl,d3,HF.o,HW2.o⟩
      ·go_wp2_with fail
       all_goals go_end0
       all_goals exact⟨rfl,d3,HF.o,HW2.o⟩
    ·have H3:Hid (PermIn a mid d2 d2/\SortedIn (ltOf cmpE) a mid d2):=zh ⟨permIn_refl _ _ _,Zam HP.o.p1 HP.o.p2 hlf ⟨by omega,by omega⟩⟩;have HW2:=HW1;have l0:(¬(a:Int)<(i:Int))\/((a:Int)<(i:Int)/\¬(i:Int)<(mid:Int)):=by omega
     clear hlf;rcases l0 with l0|⟨l0,l0'⟩
     ·by_cases hrt:mid<en/\en<b
      ·obtain⟨m1,m2⟩:=hrt;have m18:(mid:Int)<(en:Int):=by omega
       have m28:(en:Int)<(b:Int):=by omega
       have HRT:=zh (HIH.o mid en b d2 w1 (by omega) m1 m2 hb HW2.o (PermIn.sorted_out H3.o.1 HP.o.p3 (Or.inr (zr _))) (PermIn.sorted_out H3.o.1 HP.o.p4 (Or.inr (by omega))));go_wp2_with fail
       all_goals (
        refine HRT.o.mono ?_;rintro e w3 ⟨rfl,d4,h4,hw3⟩;have HF:=zh (HP.o.done (by rw[HDZ.o];exact hb) (by omega) (by omega) H3.o h4);have HW3:=zh hw3;clear HRT h4 hw3;go_wp2_with fail
        all_goals go_end0
        all_goals exact⟨rfl,d4,HF.o,HW3.o⟩)
      ·have HF:=zh (HP.o.done (by rw[HDZ.o];exact hb) (by omega) (by omega) H3.o ⟨permIn_refl d2 _ _,Zam (PermIn.sorted_out H3.o.1 HP.o.p3 (Or.inr (zr _))) (PermIn.sorted_out H3.o.1 HP.o.p4 (Or.inr (by omega))) hrt ⟨by omega,heb⟩⟩);have m0:(¬(mid:Int)<(en:Int))\/((mid:Int)<(en:Int)/\¬(en:Int)<(b:Int)):=by omega
       clear hrt;rcases m0 with m0|⟨m0,m0'⟩
       ·go_wp2_with fail
        all_goals go_end0
        all_goals exact⟨rfl,d2,HF.o,HW2.o⟩
       ·go_wp2_with fail
        all_goals go_end0
        all_goals exact⟨rfl,d2,HF.o,HW2.o⟩
     ·by_cases hrt:mid<en/\en<b
      ·obtain⟨m1,m2⟩:=hrt;have m18:(mid:Int)<(en:Int):=by omega
       have m28:(en:Int)<(b:Int):=by omega
       have HRT:=zh (HIH.o mid en b d2 w1 (by omega) m1 m2 hb HW2.o (PermIn.sorted_out H3.o.1 HP.o.p3 (Or.inr (zr _))) (PermIn.sorted_out H3.o.1 HP.o.p4 (Or.inr (by omega))));go_wp2_with fail
       all_goals (
        refine HRT.o.mono ?_;rintro e w3 ⟨rfl,d4,h4,hw3⟩;have HF:=zh (HP.o.done (by rw[HDZ.o];exact hb) (by omega) (by omega) H3.o h4);have HW3:=zh hw3;clear HRT h4 hw3;go_wp2_with fail
        all_goals go_end0
        all_goals exact⟨rfl,d4,HF.o,HW3.o⟩)
      ·have HF:=zh (HP.o.done (by rw[HDZ.o];exact hb) (by omega) (by omega) H3.o ⟨permIn_refl d2 _ _,Zam (PermIn.sorted_out H3.o.1 HP.o.p3 (Or.inr (zr _))) (PermIn.sorted_out H3.o.1 HP.o.p4 (Or.inr (by omega))) hrt ⟨by omega,heb⟩⟩);have m0:(¬(mid:Int)<(en:Int))\/((mid:Int)<(en:Int)/\¬(en:Int)<(b:Int)):=by omega
       clear hrt;rcases m0 with m0|⟨m0,m0'⟩
       ·go_wp2_with fail
        all_goals go_end0
        all_goals exact⟨rfl,d2,HF.o,HW2.o⟩
       ·go_wp2_with fail
        all_goals go_end0
        all_goals exact⟨rfl,d2,HF.o,HW2.o⟩
   ·have HP:=zh (HPT.o d (RotIn.none (by omega) ⟨by omega,hme⟩ d));have HW1:=HWO;have r0:(¬(i:Int)<(m:Int))\/((i:Int)<(m:Int)/\¬(m:Int)<(en:Int)):=by omega
    clear HPT HBI hrot;rcases r0 with r0|⟨r0,r0'⟩
    ·by_cases hlf:a<i/\i<mid
     ·obtain⟨l1,l2⟩:=hlf;have l18:(a:Int)<(i:Int):=by omega
      have l28:(i:Int)<(mid:Int):=by omega
      have HLF:=zh (HIH.o a i mid d wr (by omega) l1 l2 (by omega) HW1.o HP.o.p1 HP.o.p2);go_wp2_with fail;refine HLF.o.mono ?_;rintro e w2 ⟨rfl,d3,h3,hw2⟩;have H3:=zh h3;have HW2:=zh hw2;clear HLF h3 hw2;by_cases hrt:mid<en/\en<b
      ·obtain⟨m1,m2⟩:=hrt;have m18:(mid:Int)<(en:Int):=by omega
       have m28:(en:Int)<(b:Int):=by omega
       have HRT:=zh (HIH.o mid en b d3 w2 (by omega) m1 m2 hb HW2.o (PermIn.sorted_out H3.o.1 HP.o.p3 (Or.inr (zr _))) (PermIn.sorted_out H3.o.1 HP.o.p4 (Or.inr (by omega))));go_wp2_with fail
       all_goals (
        refine HRT.o.mono ?_;rintro e w3 ⟨rfl,d4,h4,hw3⟩;have HF:=zh (HP.o.done (by rw[HDZ.o];exact hb) (by omega) (by omega) H3.o h4);have HW3:=zh hw3;clear HRT h4 hw3;go_wp2_with fail
        all_goals go_end0
        all_goals exact⟨rfl,d4,HF.o,HW3.o⟩)
      ·have HF:=zh (HP.o.done (by rw[HDZ.o];exact hb) (by omega) (by omega) H3.o ⟨permIn_refl d3 _ _,Zam (PermIn.sorted_out H3.o.1 HP.o.p3 (Or.inr (zr _))) (PermIn.sorted_out H3.o.1 HP.o.p4 (Or.inr (by omega))) hrt ⟨by omega,heb⟩⟩);have m0:(¬(mid:Int)<(en:Int))\/((mid:Int)<(en:Int)/\¬(en:Int)<(b:Int)):=by omega
       clear hrt;rcases m0 with m0|⟨m0,m0'⟩
       ·go_wp2_with fail
        all_goals go_end0
        all_goals exact⟨rfl,d3,HF.o,HW2.o⟩
       ·go_wp2_with fail
        all_goals go_end0
        all_goals exact⟨rfl,d3,HF.o,HW2.o⟩
     ·have H3:Hid (PermIn a mid d d/\SortedIn (ltOf cmpE) a mid d):=zh ⟨permIn_refl _ _ _,Zam HP.o.p1 HP.o.p2 hlf ⟨by omega,by omega⟩⟩;have HW2:=HW1;have l0:(¬(a:Int)<(i:Int))\/((a:Int)<(i:Int)/\¬(i:Int)<(mid:Int)):=by omega
      clear hlf;rcases l0 with l0|⟨l0,l0'⟩
      ·by_cases hrt:mid<en/\en<b
       ·obtain⟨m1,m2⟩:=hrt;have m18:(mid:Int)<(en:Int):=by omega
        have m28:(en:Int)<(b:Int):=by omega
        have HRT:=zh (HIH.o mid en b d wr (by omega) m1 m2 hb HW2.o (PermIn.sorted_out H3.o.1 HP.o.p3 (Or.inr (zr _))) (PermIn.sorted_out H3.o.1 HP.o.p4 (Or.inr (by omega))));go_wp2_with fail
        all_goals (
         refine HRT.o.mono ?_;rintro e w3 ⟨rfl,d4,h4,hw3⟩;have HF:=zh (HP.o.done (by rw[HDZ.o];exact hb) (by omega) (by omega) H3.o h4);have HW3:=zh hw3;clear HRT h4 hw3;go_wp2_with fail
         all_goals go_end0
         all_goals exact⟨rfl,d4,HF.o,HW3.o⟩)
       ·have HF:=zh (HP.o.done (by rw[HDZ.o];exact hb) (by omega) (by omega) H3.o ⟨permIn_refl d _ _,Zam (PermIn.sorted_out H3.o.1 HP.o.p3 (Or.inr (zr _))) (PermIn.sorted_out H3.o.1 HP.o.p4 (Or.inr (by omega))) hrt ⟨by omega,heb⟩⟩);have m0:(¬(mid:Int)<(en:Int))\/((mid:Int)<(en:Int)/\¬(en:Int)<(b:Int)):=by omega
        clear hrt;rcases m0 with m0|⟨m0,m0'⟩
        ·go_wp2_with fail
         all_goals go_end0
         all_goals exact⟨rfl,d,HF.o,HW2.o⟩
        ·go_wp2_with fail
         all_goals go_end0
         all_goals exact⟨rfl,d,HF.o,HW2.o⟩
      ·by_cases hrt:mid<en/\en<b
       ·obtain⟨m1,m2⟩:=hrt;have m18:(mid:Int)<(en:Int):=by omega
        have m28:(en:Int)<(b:Int):=by omega
        have HRT:=zh (HIH.o mid en b d wr (by omega) m1 m2 hb HW2.o (PermIn.sorted_out H3.o.1 HP.o.p3 (Or.inr (zr _))) (PermIn.sorted_out H3.o.1 HP.o.p4 (Or.inr (by omega))));go_wp2_with fail
        all_goals (
         refine HRT.o.mono ?_;rintro e w3 ⟨rfl,d4,h4,hw3⟩;have HF:=zh (HP.o.done (by rw[HDZ.o];exact hb) (by omega) (by omega) H3.o h4);have HW3:=zh hw3;clear HRT h4 hw3;go_wp2_with fail
         all_goals go_end0
         all_goals exact⟨rfl,d4,HF.o,HW3.o⟩)
       ·have HF:=zh (HP.o.done (by rw[HDZ.o];exact hb) (by omega) (by omega) H3.o ⟨permIn_refl d _ _,Zam (PermIn.sorted_out H3.o.1 HP.o.p3 (Or.inr (zr _))) (PermIn.sorted_out H3.o.1 HP.o.p4 (Or.inr (by omega))) hrt ⟨by omega,heb⟩⟩);have m0:(¬(mid:Int)<(en:Int))\/((mid:Int)<(en:Int)/\¬(en:Int)<(b:Int)):=by omega
        clear hrt;rcases m0 with m0|⟨m0,m0'⟩
        ·go_wp2_with fail
         all_goals go_end0
         all_goals exact⟨rfl,d,HF.o,HW2.o⟩
        ·go_wp2_with fail
         all_goals go_end0
         all_goals exact⟨rfl,d,HF.o,HW2.o⟩
    ·by_cases hlf:a<i/\i<mid
     ·obtain⟨l1,l2⟩:=hlf;have l18:(a:Int)<(i:Int):=by omega
      have l28:(i:Int)<(mid:Int):=by omega
      have HLF:=zh (HIH.o a i mid d wr (by omega) l1 l2 (by omega) HW1.o HP.o.p1 HP.o.p2);go_wp2_with fail;refine HLF.o.mono ?_;rintro e w2 ⟨rfl,d3,h3,hw2⟩;have H3:=zh h3;have HW2:=zh hw2;clear HLF h3 hw2;by_cases hrt:mid<en/\en<b
      ·obtain⟨m1,m2⟩:=hrt;have m18:(mid:Int)<(en:Int):=by omega
       have m28:(en:Int)<(b:Int):=by omega
       have HRT:=zh (HIH.o mid en b d3 w2 (by omega) m1 m2 hb HW2.o (PermIn.sorted_out H3.o.1 HP.o.p3 (Or.inr (zr _))) (PermIn.sorted_out H3.o.1 HP.o.p4 (Or.inr (by omega))));go_wp2_with fail
       all_goals (
        refine HRT.o.mono ?_;rintro e w3 ⟨rfl,d4,h4,hw3⟩;have HF:=zh (HP.o.done (by rw[HDZ.o];exact hb) (by omega) (by omega) H3.o h4);have HW3:=zh hw3;clear HRT h4 hw3;go_wp2_with fail
        all_goals go_end0
        all_goals exact⟨rfl,d4,HF.o,HW3.o⟩)
      ·have HF:=zh (HP.o.done (by rw[HDZ.o];exact hb) (by omega) (by omega) H3.o ⟨permIn_refl d3 _ _,Zam (PermIn.sorted_out H3.o.1 HP.o.p3 (Or.inr (zr _))) (PermIn.sorted_out H3.o.1 HP.o.p4 (Or.inr (by omega))) hrt ⟨by omega,heb⟩⟩);have m0:(¬(mid:Int)<(en:Int))\/((mid:Int)<(en:Int)/\¬(en:Int)<(b:Int)):=by omega
       clear hrt;rcases m0 with m0|⟨m0,m0'⟩
       ·go_wp2_with fail
        all_goals go_end0
        all_goals exact⟨rfl,d3,HF.o,HW2.o⟩
       ·go_wp2_with fail
        all_goals go_end0
        all_goals exact⟨rfl,d3,HF.o,HW2.o⟩
     ·have H3:Hid (PermIn a mid d d/\SortedIn (ltOf cmpE) a mid d):=zh ⟨permIn_refl _ _ _,Zam HP.o.p1 HP.o.p2 hlf ⟨by omega,by omega⟩⟩;have HW2:=HW1;have l0:(¬(a:Int)<(i:Int))\/((a:Int)<(i:Int)/\¬(i:Int)<(mid:Int)):=by omega
      clear hlf;rcases l0 with l0|⟨l0,l0'⟩
      ·by_cases hrt:mid<en/\en<b
       ·obtain⟨m1,m2⟩:=hrt;have m18:(mid:Int)<(en:Int):=by omega
        have m28:(en:Int)<(b:Int):=by omega
        have HRT:=zh (HIH.o mid en b d wr (by omega) m1 m2 hb HW2.o (PermIn.sorted_out H3.o.1 HP.o.p3 (Or.inr (zr _))) (PermIn.sorted_out H3.o.1 HP.o.p4 (Or.inr (by omega))));go_wp2_with fail
        all_goals (
         refine HRT.o.mono ?_;rintro e w3 ⟨rfl,d4,h4,hw3⟩;have HF:=zh (HP.o.done (by rw[HDZ.o];exact hb) (by omega) (by omega) H3.o h4);have HW3:=zh hw3;clear HRT h4 hw3;go_wp2_with fail
         all_goals go_end0
         all_goals exact⟨rfl,d4,HF.o,HW3.o⟩)
       ·have HF:=zh (HP.o.done (by rw[HDZ.o];exact hb) (by omega) (by omega) H3.o ⟨permIn_refl d _ _,Zam (PermIn.sorted_out H3.o.1 HP.o.p3 (Or.inr (zr _))) (PermIn.sorted_out H3.o.1 HP.o.p4 (Or.inr (by omega))) hrt ⟨by omega,heb⟩⟩);have m0:(¬(mid:Int)<(en:Int))\/((mid:Int)<(en:Int)/\¬(en:Int)<(b:Int)):=by omega
        clear hrt;rcases m0 with m0|⟨m0,m0'⟩
        ·go_wp2_with fail
         all_goals go_end0
         all_goals exact⟨rfl,d,HF.o,HW2.o⟩
        ·go_wp2_with fail
         all_goals go_end0
         all_goals exact⟨rfl,d,HF.o,HW2.o⟩
      ·by_cases hrt:mid<en/\en<b
       ·obtain⟨m1,m2⟩:=hrt;have m18:(mid:Int)<(en:Int):=by omega
        have m28:(en:Int)<(b:Int):=by omega
        have HRT:=zh (HIH.o mid en b d wr (by omega) m1 m2 hb HW2.o (PermIn.sorted_out H3.o.1 HP.o.p3 (Or.inr (zr _))) (PermIn.sorted_out H3.o.1 HP.o.p4 (Or.inr (by omega))));go_wp2_with fail
        all_goals (
         refine HRT.o.mono ?_;rintro e w3 ⟨rfl,d4,h4,hw3⟩;have HF:=zh (HP.o.done (by rw[HDZ.o];exact hb) (by omega) (by omega) H3.o h4);have HW3:=zh hw3;clear HRT h4 hw3;go_wp2_with fail
         all_goals go_end0
         all_goals exact⟨rfl,d4,HF.o,HW3.o⟩)
       ·have HF:=zh (HP.o.done (by rw[HDZ.o];exact hb) (by omega) (by omega) H3.o ⟨permIn_refl d _ _,Zam (PermIn.sorted_out H3.o.1 HP.o.p3 (Or.inr (zr _))) (PermIn.sorted_out H3.o.1 HP.o.p4 (Or.inr (by omega))) hrt ⟨by omega,heb⟩⟩);have m0:(¬(mid:Int)<(en:Int))\/((mid:Int)<(en:Int)/\¬(en:Int)<(b:Int)):=by omega
        clear hrt;rcases m0 with m0|⟨m0,m0'⟩
        ·go_wp2_with fail
         all_goals go_end0
         all_goals exact⟨rfl,d,HF.o,HW2.o⟩
        ·go_wp2_with fail
         all_goals go_end0
         all_goals exact⟨rfl,d,HF.o,HW2.o⟩
theorem Zqc (w0:World)(blk off n:Nat)(d0:Array Ev)(R:SbRow w0 blk off n d0)(cap:Nat)(a m b:Nat)(d:Array Ev)(W:World)(ham:a<m)(hmb:m<b)(hb:b<=n)(h:SbIn w0 blk off n d W)(s1:SortedIn (ltOf cmpE) a m d)(s2:SortedIn (ltOf cmpE) m b d)(hmm:¬(a+b) / 2<m)(hna:m≠a+1)(hnb:b≠m+1)(ih:∀(a' m' b':Nat) (d:Array Ev) (W:World),b' - a'<b - a->a'<m'->m'<b'->b'<=n->SbIn w0 blk off n d W->SortedIn (ltOf cmpE) a' m' d->SortedIn (ltOf cmpE) m' b' d->Calls Tryz.prog 134 #[.slice (some ⟨blk,off,none⟩) n cap,.int .i64 a',.int .i64 m',.int .i64 b',.func (.func 45) #[] #[]] W fun e w'=>e = .returned (.tuple #[])/\∃d',(PermIn a' b' d d'/\SortedIn (ltOf cmpE) a' b' d')/\SbIn w0 blk off n d' w') :
  Calls Tryz.prog 134 #[.slice (some ⟨blk,off,none⟩) n cap,.int .i64 a,.int .i64 m,.int .i64 b,.func (.func 45) #[] #[]] W fun e w'=>e = .returned (.tuple #[])/\∃d',(PermIn a b d d'/\SortedIn (ltOf cmpE) a b d')/\SbIn w0 blk off n d' w':=by
 have HR:=zh R;have HH:=zh h;have hn:=R.few;have HSA:=zh s1;have HSB:=zh s2;have HDZ:Hid (d.size=n):=zh h.size;have hq:((m:Int) - (a:Int) == 1)=false:=by simp;omega
 have hq2:((b:Int) - (m:Int) == 1)=false:=by simp;omega
 have HIH:=zh ih;obtain⟨mid,hmid⟩:=zG ((a+b) / 2);have HMID:=zh hmid.symm;rw[hmid]at hmm;have HM1:Hid (((a:Int)+(b:Int)) / 2=(mid:Int)):=zh (by omega);have ham2:a<mid:=by omega
 have hmb2:mid<b:=by omega
 have h2a:2*mid<=a+b:=by omega
 have h2b:a+b<=2*mid+1:=by omega
 obtain⟨lo,hlo⟩:=zG (if mid<m then mid+m - b else a);obtain⟨hi,hhi⟩:=zG (if mid<m then mid else m);have HLO:=zh hlo.symm;have HHI:=zh hhi.symm;have hlh:a<=lo/\lo<=hi/\hi<=m/\hi<=mid/\mid+m<=b+lo:=by split at hlo <;> split at hhi <;> omega
 obtain⟨g1,g2,g3,g4,g5⟩:=hlh;have HPC:Hid (∀c,lo<=c->c<hi->m<=mid+m - 1 - c/\mid+m - 1 - c<b):=zh (fun c h1 h2=>by omega);clear R h s1 s2 hna hnb ih hmid;go_enter Tryz.func134,Tryz.ntmps134;go_upto_region 25 with fail;rw[HM1.o];have hmm8:¬(mid:Int)<(m:Int):=by omega
 have el:Hid (a=lo):=zh (by rw[if_neg hmm]at hlo;exact hlo);have eh:Hid (m=hi):=zh (by rw[if_neg hmm]at hhi;exact hhi);clear hlo hhi hmm;go_wp2_with fail;go_loopw [20,21] (fun vi vj wr=>∃(i j:Nat),i<=j/\j<=hi/\lo<=i/\vi = .int .i64 i/\vj = .int .i64 j/\Hid (Bis (fun c=>ltOf cmpE d[mid+m - 1 - c]! d[c]!) lo hi i j)/\Hid (SbIn w0 blk off n d wr)) (fun vi vj _=>(intOf vj).toNat - (intOf vi).toNat)
 case atStart=>exact⟨lo,hi,by omega,zr _,zr _,congrArg (Value.int .i64) (by have:=el.o;omega),congrArg (Value.int .i64) (by have:=eh.o;omega),zh (Bis.start _ g2),HH⟩
 case round=>
  clear el eh hmm8;obtain⟨i,j,hij,hjm,hai,rfl,rfl,hbi,hw⟩:=hrel;by_cases hlt:i<j
  ·have hlt8:(i:Int)<(j:Int):=by omega
   obtain⟨c,hc⟩:=zG ((i+j) / 2);have HM2:Hid (((i:Int)+(j:Int)) / 2=(c:Int)):=zh (by omega);have hci:i<=c:=by omega
   have hcj:c<j:=by omega
   have hc0:(0:Int)<=(c:Int):=by omega
   have hcn:(c:Int)<(n:Int):=by omega
   have HMO:=zh (Zkp Zdn HSA.o HSB.o (p:=mid+m - 1) g1 g3 HPC.o);obtain⟨q,hqc⟩:=zG (mid+m - 1 - c);have HQ:=zh hqc;have hqb:=HPC.o c (by omega) (by omega);rw[hqc]at hqb;have hq0:(0:Int)<=(q:Int):=by omega
   have hqn:(q:Int)<(n:Int):=by omega
   have e1:(mid:Int)+(m:Int) - 1 - (c:Int)=(q:Int):=by omega
   have wq:IntKind.i64.wrap (q:Int)=(q:Int):=by rw[IntKind.wrap_i64];omega
   clear hc hqc;have HEV:Hid (∀V,SbIn w0 blk off n d V->EvAt V blk (off+q*8) d[q]!/\EvAt V blk (off+c*8) d[c]!):=zh (fun V hV=>⟨hV.ev HR.o (by omega),hV.ev HR.o (by omega)⟩);have HCM:Hid (∀V,SbIn w0 blk off n d V->Calls Tryz.prog 45 #[evA d[q]!,evA d[c]!] V fun e w'=>e = .returned (.int .i64 (cmpE d[q]! d[c]!))/\SbIn w0 blk off n d w'):=zh (fun V hV=>hV.cmp _ _);obtain⟨z,hz⟩:∃z,cmpE d[q]! d[c]! = z:=⟨_,rfl⟩
   have HZ:=zh hz;rw[hz]at HCM;clear hz;obtain⟨⟨s1,n1,t1,k1,p1,i1,v1,x1⟩,hx⟩:∃x,d[q]! = x:=⟨_,rfl⟩
   obtain⟨⟨s2,n2,t2,k2,p2,i2,v2,x2⟩,hy⟩:∃x,d[c]! = x:=⟨_,rfl⟩
   rw[hx,hy]at HEV HCM;unfold evA at HCM;clear hx hy;have HS0:Hid (SbIn w0 blk off n d wr.drew):=zh hw.o.drew;go_upto_region 35 with fail;rw[HM2.o];refine Zar (fun V=>SbIn w0 blk off n d V) [(0,false),(1,false),(2,false),(3,false),(4,false),(5,false),(6,false),(7,false),(8,false),(9,false),(10,false),(11,true),(12,false),(13,false)] (by kernel_rfl) (by kernel_rfl) HS0.o ?_;simp only[planL,xq4,xq5]
   repeat ((first|(refine Zaf _ (by rfl) (fun W hW=>by (obtain⟨⟨c0,c1,c2,c3,c4,c5,c6,c7⟩,f0,f1,f2,f3,f4,f5,f6,f7⟩:=HEV.o W hW;go_simp;try (first|with_reducible rfl|rw[if_neg (by omega)]))) ?_)|(refine Zac (by rfl) ?_));simp only[Act.put,xq1,xq2,xq3])
   refine Zae ?_;have HCC:=zh (HCM.o _ HS0.o);go_wp2_with fail;refine HCC.o.mono ?_;rintro e w1 ⟨rfl,hw1⟩;have HW1:=zh hw1;clear hw1 HCC HCM;go_wp2_with fail;refine⟨HW1.o,?_⟩
   repeat ((first|(refine Zaf _ (by rfl) (fun W hW=>by (obtain⟨⟨c0,c1,c2,c3,c4,c5,c6,c7⟩,f0,f1,f2,f3,f4,f5,f6,f7⟩:=HEV.o W hW;go_simp;try (first|with_reducible rfl|rw[if_neg (by omega)]))) ?_)|(refine Zac (by rfl) ?_));simp only[Act.put,xq1,xq2,xq3])
   refine Zah ?_;clear HEV;by_cases hz0:z<0
   ·rw[show (!decide (z<0))=false by simp[hz0]];have HNX:Hid (Bis (fun c=>ltOf cmpE d[mid+m - 1 - c]! d[c]!) lo hi i c):=zh (hbi.o.left HMO.o hci hcj (by show ltOf cmpE d[mid+m - 1 - c]! d[c]! = true;rw[HQ.o];exact Zkr (by rw[HZ.o];exact hz0)));go_wp2_with fail;go_roundw
    case rel=>exact⟨i,c,hci,by omega,hai,rfl,rfl,HNX,HW1⟩
    case measure=>simp[intOf];omega
   ·rw[show (!decide (z<0))=true by simp[hz0]];have HNX:Hid (Bis (fun c=>ltOf cmpE d[mid+m - 1 - c]! d[c]!) lo hi (c+1) j):=zh (hbi.o.right HMO.o hci hcj (by show ltOf cmpE d[mid+m - 1 - c]! d[c]! = false;rw[HQ.o];exact lt_no (by rw[HZ.o];exact hz0)));go_wp2_with fail;go_roundw
    case rel=>exact⟨c+1,j,by omega,hjm,by omega,by go_num,rfl,HNX,HW1⟩
    case measure=>simp[intOf];omega
  ·have hlt8:¬(i:Int)<(j:Int):=by omega
   have HBI:Hid (Bis (fun c=>ltOf cmpE d[mid+m - 1 - c]! d[c]!) lo hi i i):=zh (by rw[show j=i by omega]at hbi;exact hbi.o);have hihi:i<=hi:=by omega
   obtain⟨en,hen⟩:=zG (mid+m - i);have e2:(mid:Int)+(m:Int) - (i:Int)=(en:Int):=by omega
   have HEN:=zh hen;have hme:m<=en:=by omega
   have heb:en<=b:=by omega
   have HPT:Hid (∀d2,RotIn i m en d d2->Parted (ltOf cmpE) a mid b i en d d2):=zh (fun d2 hr=>by
    rw[<-HEN.o]at hr ⊢;exact Zf4 Zdn ham hmb (by rw[HDZ.o];exact hb) HSA.o HSB.o HMID.o HLO.o HHI.o HBI.o hr)
   have HWO:=hw;clear hbi hlt hij hw hen HPC;by_cases hrot:i<m/\m<en
   ·obtain⟨r1,r2⟩:=hrot;have r18:(i:Int)<(m:Int):=by omega
    have r28:(m:Int)<(en:Int):=by omega
    have HRO:=zh (Zf6 w0 blk off n d0 HR.o cap (.func (.func 45) #[] #[]) i m en d wr HWO.o r1 r2 (by omega));go_wp2_with fail;refine HRO.o.mono ?_;rintro e w1 ⟨rfl,d2,hro,hw1⟩;have HP:=zh (HPT.o d2 hro);have HW1:=zh hw1;clear HRO hro hw1 HPT HBI;by_cases hlf:a<i/\i<mid
    ·obtain⟨l1,l2⟩:=hlf;have l18:(a:Int)<(i:Int):=by omega
     have l28:(i:Int)<(mid:Int):=by omega
     have HLF:=zh (HIH.o a i mid d2 w1 (by omega) l1 l2 (by omega) HW1.o HP.o.p1 HP.o.p2);go_wp2_with fail;refine HLF.o.mono ?_;rintro e w2 ⟨rfl,d3,h3,hw2⟩;have H3:=zh h3;have HW2:=zh hw2;clear HLF h3 hw2;by_cases hrt:mid<en/\en<b
     ·obtain⟨m1,m2⟩:=hrt;have m18:(mid:Int)<(en:Int):=by omega
      have m28:(en:Int)<(b:Int):=by omega
      have HRT:=zh (HIH.o mid en b d3 w2 (by omega) m1 m2 hb HW2.o (PermIn.sorted_out H3.o.1 HP.o.p3 (Or.inr (zr _))) (PermIn.sorted_out H3.o.1 HP.o.p4 (Or.inr (by omega))));go_wp2_with fail
      all_goals (
       refine HRT.o.mono ?_;rintro e w3 ⟨rfl,d4,h4,hw3⟩;have HF:=zh (HP.o.done (by rw[HDZ.o];exact hb) (by omega) (by omega) H3.o h4);have HW3:=zh hw3;clear HRT h4 hw3;go_wp2_with fail
       all_goals go_end0
       all_goals exact⟨rfl,d4,HF.o,HW3.o⟩)
     ·have HF:=zh (HP.o.done (by rw[HDZ.o];exact hb) (by omega) (by omega) H3.o ⟨permIn_refl d3 _ _,Zam (PermIn.sorted_out H3.o.1 HP.o.p3 (Or.inr (zr _))) (PermIn.sorted_out H3.o.1 HP.o.p4 (Or.inr (by omega))) hrt ⟨by omega,heb⟩⟩);have m0:(¬(mid:Int)<(en:Int))\/((mid:Int)<(en:Int)/\¬(en:Int)<(b:Int)):=by omega
      clear hrt;rcases m0 with m0|⟨m0,m0'⟩
      ·go_wp2_with fail
       all_goals go_end0
       all_goals exact⟨rfl,d3,HF.o,HW2.o⟩
      ·go_wp2_with fail
       all_goals go_end0
       all_goals exact⟨rfl,d3,HF.o,HW2.o⟩
    ·have H3:Hid (PermIn a mid d2 d2/\SortedIn (ltOf cmpE) a mid d2):=zh ⟨permIn_refl _ _ _,Zam HP.o.p1 HP.o.p2 hlf ⟨by omega,by omega⟩⟩;have HW2:=HW1;have l0:(¬(a:Int)<(i:Int))\/((a:Int)<(i:Int)/\¬(i:Int)<(mid:Int)):=by omega
     clear hlf;rcases l0 with l0|⟨l0,l0'⟩
     ·by_cases hrt:mid<en/\en<b
      ·obtain⟨m1,m2⟩:=hrt;have m18:(mid:Int)<(en:Int):=by omega
       have m28:(en:Int)<(b:Int):=by omega
       have HRT:=zh (HIH.o mid en b d2 w1 (by omega) m1 m2 hb HW2.o (PermIn.sorted_out H3.o.1 HP.o.p3 (Or.inr (zr _))) (PermIn.sorted_out H3.o.1 HP.o.p4 (Or.inr (by omega))));go_wp2_with fail
       all_goals (
        refine HRT.o.mono ?_;rintro e w3 ⟨rfl,d4,h4,hw3⟩;have HF:=zh (HP.o.done (by rw[HDZ.o];exact hb) (by omega) (by omega) H3.o h4);have HW3:=zh hw3;clear HRT h4 hw3;go_wp2_with fail
        all_goals go_end0
        all_goals exact⟨rfl,d4,HF.o,HW3.o⟩)
      ·have HF:=zh (HP.o.done (by rw[HDZ.o];exact hb) (by omega) (by omega) H3.o ⟨permIn_refl d2 _ _,Zam (PermIn.sorted_out H3.o.1 HP.o.p3 (Or.inr (zr _))) (PermIn.sorted_out H3.o.1 HP.o.p4 (Or.inr (by omega))) hrt ⟨by omega,heb⟩⟩);have m0:(¬(mid:Int)<(en:Int))\/((mid:Int)<(en:Int)/\¬(en:Int)<(b:Int)):=by omega
       clear hrt;rcases m0 with m0|⟨m0,m0'⟩
       ·go_wp2_with fail
        all_goals go_end0
        all_goals exact⟨rfl,d2,HF.o,HW2.o⟩
       ·go_wp2_with fail
        all_goals go_end0
        all_goals exact⟨rfl,d2,HF.o,HW2.o⟩
     ·by_cases hrt:mid<en/\en<b
      ·obtain⟨m1,m2⟩:=hrt;have m18:(mid:Int)<(en:Int):=by omega
       have m28:(en:Int)<(b:Int):=by omega
       have HRT:=zh (HIH.o mid en b d2 w1 (by omega) m1 m2 hb HW2.o (PermIn.sorted_out H3.o.1 HP.o.p3 (Or.inr (zr _))) (PermIn.sorted_out H3.o.1 HP.o.p4 (Or.inr (by omega))));go_wp2_with fail
       all_goals (
        refine HRT.o.mono ?_;rintro e w3 ⟨rfl,d4,h4,hw3⟩;have HF:=zh (HP.o.done (by rw[HDZ.o];exact hb) (by omega) (by omega) H3.o h4);have HW3:=zh hw3;clear HRT h4 hw3;go_wp2_with fail
        all_goals go_end0
        all_goals exact⟨rfl,d4,HF.o,HW3.o⟩)
      ·have HF:=zh (HP.o.done (by rw[HDZ.o];exact hb) (by omega) (by omega) H3.o ⟨permIn_refl d2 _ _,Zam (PermIn.sorted_out H3.o.1 HP.o.p3 (Or.inr (zr _))) (PermIn.sorted_out H3.o.1 HP.o.p4 (Or.inr (by omega))) hrt ⟨by omega,heb⟩⟩);have m0:(¬(mid:Int)<(en:Int))\/((mid:Int)<(en:Int)/\¬(en:Int)<(b:Int)):=by omega
       clear hrt;rcases m0 with m0|⟨m0,m0'⟩
       ·go_wp2_with fail
        all_goals go_end0
        all_goals exact⟨rfl,d2,HF.o,HW2.o⟩
       ·go_wp2_with fail
        all_goals go_end0
        all_goals exact⟨rfl,d2,HF.o,HW2.o⟩
   ·have HP:=zh (HPT.o d (RotIn.none (by omega) ⟨by omega,hme⟩ d));have HW1:=HWO;have r0:(¬(i:Int)<(m:Int))\/((i:Int)<(m:Int)/\¬(m:Int)<(en:Int)):=by omega
    clear HPT HBI hrot;rcases r0 with r0|⟨r0,r0'⟩
    ·by_cases hlf:a<i/\i<mid
     ·obtain⟨l1,l2⟩:=hlf;have l18:(a:Int)<(i:Int):=by omega
      have l28:(i:Int)<(mid:Int):=by omega
      have HLF:=zh (HIH.o a i mid d wr (by omega) l1 l2 (by omega) HW1.o HP.o.p1 HP.o.p2);go_wp2_with fail;refine HLF.o.mono ?_;rintro e w2 ⟨rfl,d3,h3,hw2⟩;have H3:=zh h3;have HW2:=zh hw2;clear HLF h3 hw2;by_cases hrt:mid<en/\en<b
      ·obtain⟨m1,m2⟩:=hrt;have m18:(mid:Int)<(en:Int):=by omega
       have m28:(en:Int)<(b:Int):=by omega
       have HRT:=zh (HIH.o mid en b d3 w2 (by omega) m1 m2 hb HW2.o (PermIn.sorted_out H3.o.1 HP.o.p3 (Or.inr (zr _))) (PermIn.sorted_out H3.o.1 HP.o.p4 (Or.inr (by omega))));go_wp2_with fail
       all_goals (
        refine HRT.o.mono ?_;rintro e w3 ⟨rfl,d4,h4,hw3⟩;have HF:=zh (HP.o.done (by rw[HDZ.o];exact hb) (by omega) (by omega) H3.o h4);have HW3:=zh hw3;clear HRT h4 hw3;go_wp2_with fail
        all_goals go_end0
        all_goals exact⟨rfl,d4,HF.o,HW3.o⟩)
      ·have HF:=zh (HP.o.done (by rw[HDZ.o];exact hb) (by omega) (by omega) H3.o ⟨permIn_refl d3 _ _,Zam (PermIn.sorted_out H3.o.1 HP.o.p3 (Or.inr (zr _))) (PermIn.sorted_out H3.o.1 HP.o.p4 (Or.inr (by omega))) hrt ⟨by omega,heb⟩⟩);have m0:(¬(mid:Int)<(en:Int))\/((mid:Int)<(en:Int)/\¬(en:Int)<(b:Int)):=by omega
       clear hrt;rcases m0 with m0|⟨m0,m0'⟩
       ·go_wp2_with fail
        all_goals go_end0
        all_goals exact⟨rfl,d3,HF.o,HW2.o⟩
       ·go_wp2_with fail
        all_goals go_end0
        all_goals exact⟨rfl,d3,HF.o,HW2.o⟩
     ·have H3:Hid (PermIn a mid d d/\SortedIn (ltOf cmpE) a mid d):=zh ⟨permIn_refl _ _ _,Zam HP.o.p1 HP.o.p2 hlf ⟨by omega,by omega⟩⟩;have HW2:=HW1;have l0:(¬(a:Int)<(i:Int))\/((a:Int)<(i:Int)/\¬(i:Int)<(mid:Int)):=by omega
      clear hlf;rcases l0 with l0|⟨l0,l0'⟩
      ·by_cases hrt:mid<en/\en<b
       ·obtain⟨m1,m2⟩:=hrt;have m18:(mid:Int)<(en:Int):=by omega
        have m28:(en:Int)<(b:Int):=by omega
        have HRT:=zh (HIH.o mid en b d wr (by omega) m1 m2 hb HW2.o (PermIn.sorted_out H3.o.1 HP.o.p3 (Or.inr (zr _))) (PermIn.sorted_out H3.o.1 HP.o.p4 (Or.inr (by omega))));go_wp2_with fail
        all_goals (
         refine HRT.o.mono ?_;rintro e w3 ⟨rfl,d4,h4,hw3⟩;have HF:=zh (HP.o.done (by rw[HDZ.o];exact hb) (by omega) (by omega) H3.o h4);have HW3:=zh hw3;clear HRT h4 hw3;go_wp2_with fail
         all_goals go_end0
         all_goals exact⟨rfl,d4,HF.o,HW3.o⟩)
       ·have HF:=zh (HP.o.done (by rw[HDZ.o];exact hb) (by omega) (by omega) H3.o ⟨permIn_refl d _ _,Zam (PermIn.sorted_out H3.o.1 HP.o.p3 (Or.inr (zr _))) (PermIn.sorted_out H3.o.1 HP.o.p4 (Or.inr (by omega))) hrt ⟨by omega,heb⟩⟩);have m0:(¬(mid:Int)<(en:Int))\/((mid:Int)<(en:Int)/\¬(en:Int)<(b:Int)):=by omega
        clear hrt;rcases m0 with m0|⟨m0,m0'⟩
        ·go_wp2_with fail
         all_goals go_end0
         all_goals exact⟨rfl,d,HF.o,HW2.o⟩
        ·go_wp2_with fail
         all_goals go_end0
         all_goals exact⟨rfl,d,HF.o,HW2.o⟩
      ·by_cases hrt:mid<en/\en<b
       ·obtain⟨m1,m2⟩:=hrt;have m18:(mid:Int)<(en:Int):=by omega
        have m28:(en:Int)<(b:Int):=by omega
        have HRT:=zh (HIH.o mid en b d wr (by omega) m1 m2 hb HW2.o (PermIn.sorted_out H3.o.1 HP.o.p3 (Or.inr (zr _))) (PermIn.sorted_out H3.o.1 HP.o.p4 (Or.inr (by omega))));go_wp2_with fail
        all_goals (
         refine HRT.o.mono ?_;rintro e w3 ⟨rfl,d4,h4,hw3⟩;have HF:=zh (HP.o.done (by rw[HDZ.o];exact hb) (by omega) (by omega) H3.o h4);have HW3:=zh hw3;clear HRT h4 hw3;go_wp2_with fail
         all_goals go_end0
         all_goals exact⟨rfl,d4,HF.o,HW3.o⟩)
       ·have HF:=zh (HP.o.done (by rw[HDZ.o];exact hb) (by omega) (by omega) H3.o ⟨permIn_refl d _ _,Zam (PermIn.sorted_out H3.o.1 HP.o.p3 (Or.inr (zr _))) (PermIn.sorted_out H3.o.1 HP.o.p4 (Or.inr (by omega))) hrt ⟨by omega,heb⟩⟩);have m0:(¬(mid:Int)<(en:Int))\/((mid:Int)<(en:Int)/\¬(en:Int)<(b:Int)):=by omega
        clear hrt;rcases m0 with m0|⟨m0,m0'⟩
        ·go_wp2_with fail
         all_goals go_end0
         all_goals exact⟨rfl,d,HF.o,HW2.o⟩
        ·go_wp2_with fail
         all_goals go_end0
         all_goals exact⟨rfl,d,HF.o,HW2.o⟩
    ·by_cases hlf:a<i/\i<mid
     ·obtain⟨l1,l2⟩:=hlf;have l18:(a:Int)<(i:Int):=by omega
      have l28:(i:Int)<(mid:Int):=by omega
      have HLF:=zh (HIH.o a i mid d wr (by omega) l1 l2 (by omega) HW1.o HP.o.p1 HP.o.p2);go_wp2_with fail;refine HLF.o.mono ?_;rintro e w2 ⟨rfl,d3,h3,hw2⟩;have H3:=zh h3;have HW2:=zh hw2;clear HLF h3 hw2;by_cases hrt:mid<en/\en<b
      ·obtain⟨m1,m2⟩:=hrt;have m18:(mid:Int)<(en:Int):=by omega
       have m28:(en:Int)<(b:Int):=by omega
       have HRT:=zh (HIH.o mid en b d3 w2 (by omega) m1 m2 hb HW2.o (PermIn.sorted_out H3.o.1 HP.o.p3 (Or.inr (zr _))) (PermIn.sorted_out H3.o.1 HP.o.p4 (Or.inr (by omega))));go_wp2_with fail
       all_goals (
        refine HRT.o.mono ?_;rintro e w3 ⟨rfl,d4,h4,hw3⟩;have HF:=zh (HP.o.done (by rw[HDZ.o];exact hb) (by omega) (by omega) H3.o h4);have HW3:=zh hw3;clear HRT h4 hw3;go_wp2_with fail
        all_goals go_end0
        all_goals exact⟨rfl,d4,HF.o,HW3.o⟩)
      ·have HF:=zh (HP.o.done (by rw[HDZ.o];exact hb) (by omega) (by omega) H3.o ⟨permIn_refl d3 _ _,Zam (PermIn.sorted_out H3.o.1 HP.o.p3 (Or.inr (zr _))) (PermIn.sorted_out H3.o.1 HP.o.p4 (Or.inr (by omega))) hrt ⟨by omega,heb⟩⟩);have m0:(¬(mid:Int)<(en:Int))\/((mid:Int)<(en:Int)/\¬(en:Int)<(b:Int)):=by omega
       clear hrt;rcases m0 with m0|⟨m0,m0'⟩
       ·go_wp2_with fail
        all_goals go_end0
        all_goals exact⟨rfl,d3,HF.o,HW2.o⟩
       ·go_wp2_with fail
        all_goals go_end0
        all_goals exact⟨rfl,d3,HF.o,HW2.o⟩
     ·have H3:Hid (PermIn a mid d d/\SortedIn (ltOf cmpE) a mid d):=zh ⟨permIn_refl _ _ _,Zam HP.o.p1 HP.o.p2 hlf ⟨by omega,by omega⟩⟩;have HW2:=HW1;have l0:(¬(a:Int)<(i:Int))\/((a:Int)<(i:Int)/\¬(i:Int)<(mid:Int)):=by omega
      clear hlf;rcases l0 with l0|⟨l0,l0'⟩
      ·by_cases hrt:mid<en/\en<b
       ·obtain⟨m1,m2⟩:=hrt;have m18:(mid:Int)<(en:Int):=by omega
        have m28:(en:Int)<(b:Int):=by omega
        have HRT:=zh (HIH.o mid en b d wr (by omega) m1 m2 hb HW2.o (PermIn.sorted_out H3.o.1 HP.o.p3 (Or.inr (zr _))) (PermIn.sorted_out H3.o.1 HP.o.p4 (Or.inr (by omega))));go_wp2_with fail
        all_goals (
         refine HRT.o.mono ?_;rintro e w3 ⟨rfl,d4,h4,hw3⟩;have HF:=zh (HP.o.done (by rw[HDZ.o];exact hb) (by omega) (by omega) H3.o h4);have HW3:=zh hw3;clear HRT h4 hw3;go_wp2_with fail
         all_goals go_end0
         all_goals exact⟨rfl,d4,HF.o,HW3.o⟩)
       ·have HF:=zh (HP.o.done (by rw[HDZ.o];exact hb) (by omega) (by omega) H3.o ⟨permIn_refl d _ _,Zam (PermIn.sorted_out H3.o.1 HP.o.p3 (Or.inr (zr _))) (PermIn.sorted_out H3.o.1 HP.o.p4 (Or.inr (by omega))) hrt ⟨by omega,heb⟩⟩);have m0:(¬(mid:Int)<(en:Int))\/((mid:Int)<(en:Int)/\¬(en:Int)<(b:Int)):=by omega
        clear hrt;rcases m0 with m0|⟨m0,m0'⟩
        ·go_wp2_with fail
         all_goals go_end0
         all_goals exact⟨rfl,d,HF.o,HW2.o⟩
        ·go_wp2_with fail
         all_goals go_end0
         all_goals exact⟨rfl,d,HF.o,HW2.o⟩
      ·by_cases hrt:mid<en/\en<b
       ·obtain⟨m1,m2⟩:=hrt;have m18:(mid:Int)<(en:Int):=by omega
        have m28:(en:Int)<(b:Int):=by omega
        have HRT:=zh (HIH.o mid en b d wr (by omega) m1 m2 hb HW2.o (PermIn.sorted_out H3.o.1 HP.o.p3 (Or.inr (zr _))) (PermIn.sorted_out H3.o.1 HP.o.p4 (Or.inr (by omega))));go_wp2_with fail
        all_goals (
         refine HRT.o.mono ?_;rintro e w3 ⟨rfl,d4,h4,hw3⟩;have HF:=zh (HP.o.done (by rw[HDZ.o];exact hb) (by omega) (by omega) H3.o h4);have HW3:=zh hw3;clear HRT h4 hw3;go_wp2_with fail
         all_goals go_end0
         all_goals exact⟨rfl,d4,HF.o,HW3.o⟩)
       ·have HF:=zh (HP.o.done (by rw[HDZ.o];exact hb) (by omega) (by omega) H3.o ⟨permIn_refl d _ _,Zam (PermIn.sorted_out H3.o.1 HP.o.p3 (Or.inr (zr _))) (PermIn.sorted_out H3.o.1 HP.o.p4 (Or.inr (by omega))) hrt ⟨by omega,heb⟩⟩);have m0:(¬(mid:Int)<(en:Int))\/((mid:Int)<(en:Int)/\¬(en:Int)<(b:Int)):=by omega
        clear hrt;rcases m0 with m0|⟨m0,m0'⟩
        ·go_wp2_with fail
         all_goals go_end0
         all_goals exact⟨rfl,d,HF.o,HW2.o⟩
        ·go_wp2_with fail
         all_goals go_end0
         all_goals exact⟨rfl,d,HF.o,HW2.o⟩
theorem Znr (w0:World)(blk off n:Nat)(d0:Array Ev)(R:SbRow w0 blk off n d0)(cap:Nat):∀(sz a m b:Nat) (d:Array Ev) (W:World),b - a<sz->a<m->m<b->b<=n->SbIn w0 blk off n d W->SortedIn (ltOf cmpE) a m d->SortedIn (ltOf cmpE) m b d->Calls Tryz.prog 134 #[.slice (some ⟨blk,off,none⟩) n cap,.int .i64 a,.int .i64 m,.int .i64 b,.func (.func 45) #[] #[]] W fun e w'=>e = .returned (.tuple #[])/\∃d',(PermIn a b d d'/\SortedIn (ltOf cmpE) a b d')/\SbIn w0 blk off n d' w':=by
 intro sz
 induction sz with
 | zero=>intro a m b d W h;omega
 | succ sz ih=>
  intro a m b d W h ham hmb hb hw s1 s2;by_cases h1:m=a+1
  ·exact Zqa w0 blk off n d0 R cap a m b d W ham hmb hb hw s1 s2 h1
  ·by_cases h2:b=m+1
   ·exact Znq w0 blk off n d0 R cap a m b d W ham hmb hb hw s1 s2 h1 h2
   ·by_cases h3:(a+b) / 2<m
    ·exact Zqb w0 blk off n d0 R cap a m b d W ham hmb hb hw s1 s2 h3 h1 h2 (fun a' m' b' d W g=>ih a' m' b' d W (by omega))
    ·exact Zqc w0 blk off n d0 R cap a m b d W ham hmb hb hw s1 s2 h3 h1 h2 (fun a' m' b' d W g=>ih a' m' b' d W (by omega))
end Go.Proofs.YtnpfaajhgghpgaaGreatDoor

/- A part of the joined base. -/
import Derived.Test.YtnpfaajhgghpgaaGreatDoorU17
set_option linter.unusedVariables false
set_option maxHeartbeats 8000000
set_option maxRecDepth 100000
namespace Go.Proofs.YtnpfaajhgghpgaaGreatDoor.Ru
open Go.RowKit Go.Maps Go.Shelf
theorem Zkj (n:Nat):∀b∈Lib.decDigits n,48<=b.toNat/\b.toNat<=57:=by
 induction n using Nat.strongRecOn with
 | _ n ih=>
  intro b hb;rw[Lib.decDigits]at hb;split at hb
  ·rw[List.mem_singleton]at hb;subst hb;rw[UInt8.toNat_ofNat_of_lt' (by show _<256;omega)];omega
  ·rw[List.mem_append,List.mem_singleton]at hb;rcases hb with hb|hb
   ·exact ih (n / 10) (by omega) b hb
   ·subst hb;rw[UInt8.toNat_ofNat_of_lt' (by show _<256;omega)];omega
theorem Zrj (n:Nat):Lib.decDigits n≠[]:=by
 intro h;have h1:(Lib.decDigits n).length=0:=by rw[h];rfl
 have:=Lib.nDigits_pos n;rw[Lib.decDigits_length]at h1;omega
theorem nd_le:∀(k n:Nat),n<10 ^ (k+1)->Lib.nDigits n<=k+1
 | 0,n,h=>by rw[Lib.nDigits_small (by omega)];omega
 | k+1,n,h=>by
  by_cases h1:n<10
  ·rw[Lib.nDigits_small h1];omega
  ·rw[Lib.nDigits_big h1];have:=nd_le k (n / 10) (by rw[Nat.pow_succ]at h;omega);omega
theorem Zaz {n:Nat}(h:n<=1099511627776):Lib.atoiAll (Lib.decDigits n) = .ok (n:Int):=by
 have hl:(Lib.decDigits n).length<=13:=by
  rw[Lib.decDigits_length];exact nd_le 12 n (by omega)
 cases hd:Lib.decDigits n with
 | nil=>exact absurd hd (Zrj n)
 | cons c r=>
  have hc:=Zkj n c (by rw[hd];simp);rw[Lib.atoiAll_plain c r (by omega) (by omega)];have hm:Lib.parseMag (c::r) = .ok n:=by
   rw[Lib.parseMag_short _ (by rw[<-hd];omega)];have:Lib.decNat (c::r)=some n:=by
    unfold Lib.decNat;rw[<-hd,if_neg (by simp[Zrj n]),Zgv]
   rw[this]
   rfl
  rw[hm];unfold Lib.signless;simp only;rw[if_neg (by omega)]
theorem Zak (n:Nat):(digW n).data.toList=Lib.decDigits n:=by simp[digW]
theorem Zpm (s:ByteArray)(w:World)(hs:s.size<=3000)(he:ErrAt w)(ht:TabAt w) :
  Calls Tryz.prog 136 #[.string s] w fun e w'=>LeafPost s e/\Below w.heap.size w w':=by
 by_cases hf:s=followsW
 ·have q1:(s.toList == [102,111,108,108,111,119,115])=true:=Zbm hf;have HYES:Hid (LeafPost s (.returned (.tuple #[.iface 245 (.agg #[.string s]),.bool true]))):=zh (Or.inl ⟨.follows,⟨trivial,hf⟩,by rw[hf];rfl⟩);clear hf;go_enter Tryz.func136,Tryz.ntmps136;go_wp2_with fail;go_ret2;exact⟨HYES.o,Below.refl _ _⟩
 by_cases hd:s=doneW
 ·have q1:(s.toList == [102,111,108,108,111,119,115])=false:=Zbg hf;have q2:(s.toList == [100,111,110,101])=true:=Zbm hd;have HYES:Hid (LeafPost s (.returned (.tuple #[.iface 245 (.agg #[.string s]),.bool true]))):=zh (Or.inl ⟨.done,⟨trivial,hd⟩,by rw[hd];rfl⟩);clear hf hd;go_enter Tryz.func136,Tryz.ntmps136;go_wp2_with fail;go_ret2;exact⟨HYES.o,Below.refl _ _⟩
 have q1:(s.toList == [102,111,108,108,111,119,115])=false:=Zbg hf;have q2:(s.toList == [100,111,110,101])=false:=Zbg hd
 have HIA:=zh (Zf0 s ⟨#[58,60,62]⟩ w (by decide) (by decide) (by omega) (fun j b h=>by
  have:=List.mem_of_getElem? h;simp only[List.mem_cons,List.not_mem_nil,or_false]at this;rcases this with rfl|rfl|rfl <;> decide))
 rcases Zb5 (⟨#[58,60,62]⟩:ByteArray).data.toList s.data.toList with ⟨hq,hall⟩|⟨q,x,hq,hall,hqx,hxc⟩
 ·have HNO:Hid (∀a,¬IsLeaf s a):=zh (Zsi (fun j b h=>(Zg0 b).symm.trans (hall j b h)) hf hd);rw[hq]at HIA;clear hf hd hq hall;go_enter Tryz.func136,Tryz.ntmps136;go_wp2_with fail;refine HIA.o.mono ?_;rintro e w5 ⟨rfl,hb5⟩;have HB5:=zh hb5;clear hb5;go_wp2_with fail;go_ret2;exact⟨Or.inr ⟨HNO.o,_,rfl⟩,HB5.o⟩
 ·have hlt:q<s.size:=by simpa using (List.getElem?_eq_some_iff.1 hqx).1
  obtain⟨what,hwh⟩:=zG (s.extract 0 q);obtain⟨rest,hre⟩:=zG (s.extract (q+1) s.size);have hsq:s[q]'hlt=x:=by
   rw[Lib.data_getElem? s q hlt]at hqx;injection hqx
  have HCA:Hid (CutAt s what rest x):=zh (by
   have e1:what.data.toList=s.data.toList.take q:=by rw[<-hwh];simp
   have e2:rest.data.toList=s.data.toList.drop (q+1):=by
    rw[<-hre];simp[List.take_of_length_le]
   refine⟨?_,fun b hb=>?_,(Zg0 x).symm.trans hxc⟩
   ·rw[e1,e2];have h1:s.data.toList.drop q=x::s.data.toList.drop (q+1):=by
     rw[List.drop_eq_getElem_cons (by simpa using hlt)];have h2:=(List.getElem?_eq_some_iff.1 hqx).2;rw[h2]
    rw[<-h1,List.take_append_drop]
   ·rw[e1]at hb;obtain⟨j,hj⟩:=List.mem_iff_getElem?.1 hb;rw[List.getElem?_take]at hj;split at hj
    ·rename_i hjq
     exact (Zg0 b).symm.trans (hall j b hjq hj)
    ·cases hj)
  have hrz:rest.size<=3000:=by rw[<-hre,ByteArray.size_extract];omega
  have hq8:(0:Int)<=(q:Int):=by omega
  have hq9:(q:Int)<(s.size:Int):=by omega
  have hq7:(q:Int)<=(s.size:Int):=by omega
  have hqw:IntKind.i64.wrap ((q:Int)+1)=(q:Int)+1:=by rw[IntKind.wrap_i64];omega
  have hqt:((q:Int)+1).toNat=q+1:=by omega
  have hq6:(q:Int)+1<=(s.size:Int):=by omega
  have hqn:¬(q:Int)<0:=by omega
  rw[hq]at HIA;clear hq hall hqx hxc hf hd;go_enter Tryz.func136,Tryz.ntmps136;go_wp2_with fail;refine HIA.o.mono ?_;rintro e w5 ⟨rfl,hb5⟩;have HB5:=zh hb5;have HB5d:Hid (Below w.heap.size w w5.drew):=zh (Go.Proofs.YtnpfaajhgghpgaaGreatDoor.Ru.below_drew hb5);clear hb5;go_wp2_with fail;refine Zar (fun _=>True) [(0,false),(1,false),(2,false),(3,false),(4,false),(5,false),(6,false),(7,false),(8,false),(9,false),(10,false),(11,false),(12,false)] (by kernel_rfl) (by kernel_rfl) trivial ?_;simp only[planL,xq4,xq5]
  repeat ((first|(refine Zaf _ (by rfl) (fun W hW=>by (go_simp;try (first|with_reducible rfl|rw[if_neg (by omega)]|rw[if_pos (by omega)]))) ?_)|(refine Zac (by rfl) ?_));simp only[Act.put,xq1,xq2,xq3])
  refine Zah ?_;clear hwh hre hsq hq8 hq9 hq7 hqw hqt hq6 hqn HIA;by_cases hx58:x=58
  ·subst hx58;by_cases htg:what=tagW
   ·have q3:(what.toList == [116,97,103])=true:=Zbm htg;cases hnm:nameB rest
    ·have HNO:Hid (∀a,¬IsLeaf s a):=zh (fun a ha=>by
      rcases HCA.o.leaf ha with ⟨y,rfl,_,_,e⟩|⟨y,rfl,e,_⟩|⟨k,less,n,rfl,_,e,_⟩
      ·have h1:nameB y=true:=ha.1;rw[<-e,hnm]at h1;cases h1
      ·rw[htg]at e;exact absurd e (by decide)
      ·cases less <;> exact absurd e (by decide))
     clear htg;go_wp2_with fail;refine (name_any rest w5.drew (by unfold maxLen;omega)).mono ?_;rintro e _ ⟨rfl,rfl⟩;go_wp2_with fail;go_ret2;exact⟨Or.inr ⟨HNO.o,_,rfl⟩,HB5d.o⟩
    ·have HYES:Hid (IsLeaf s (.tag rest)):=zh ⟨hnm,Za5 (by rw[HCA.o.all,htg];simp[leafT,colonW])⟩;have HTG:=zh htg;clear htg;go_wp2_with fail;refine (name_any rest w5.drew (by unfold maxLen;omega)).mono ?_;rintro e _ ⟨rfl,rfl⟩;go_wp2_with fail;go_ret2;refine⟨Or.inl ⟨_,HYES.o,?_⟩,HB5d.o⟩;rw[HTG.o]
     rfl
   have q3:(what.toList == [116,97,103])=false:=Zbg htg;by_cases hmk:what=makerW
   ·have q4:(what.toList == [109,97,107,101,114])=true:=Zbm hmk;cases hnm:nameB rest
    ·have HNO:Hid (∀a,¬IsLeaf s a):=zh (fun a ha=>by
      rcases HCA.o.leaf ha with ⟨y,rfl,e,_⟩|⟨y,rfl,_,_,e⟩|⟨k,less,n,rfl,_,e,_⟩
      ·exact htg e
      ·have h1:nameB y=true:=ha.1;rw[<-e,hnm]at h1;cases h1
      ·cases less <;> exact absurd e (by decide))
     clear htg hmk;go_wp2_with fail;refine (name_any rest w5.drew (by unfold maxLen;omega)).mono ?_;rintro e _ ⟨rfl,rfl⟩;go_wp2_with fail;go_ret2;exact⟨Or.inr ⟨HNO.o,_,rfl⟩,HB5d.o⟩
    ·have HYES:Hid (IsLeaf s (.maker rest)):=zh ⟨hnm,Za5 (by rw[HCA.o.all,hmk];simp[leafT,colonW])⟩;have HMK:=zh hmk;clear htg hmk;go_wp2_with fail;refine (name_any rest w5.drew (by unfold maxLen;omega)).mono ?_;rintro e _ ⟨rfl,rfl⟩;go_wp2_with fail;go_ret2;refine⟨Or.inl ⟨_,HYES.o,?_⟩,HB5d.o⟩;rw[HMK.o]
     rfl
   have q4:(what.toList == [109,97,107,101,114])=false:=Zbg hmk
   have HNO:Hid (∀a,¬IsLeaf s a):=zh (fun a ha=>by
    rcases HCA.o.leaf ha with ⟨y,rfl,e,_⟩|⟨y,rfl,e,_⟩|⟨k,less,n,rfl,_,e,_⟩
    ·exact htg e
    ·exact hmk e
    ·cases less <;> exact absurd e (by decide))
   clear htg hmk;go_wp2_with fail;go_ret2;exact⟨Or.inr ⟨HNO.o,_,rfl⟩,HB5d.o⟩
  ·have hx2:x=60\/x=62:=by
    have:=HCA.o.sign;unfold isS at this;simp only[Bool.or_eq_true,beq_iff_eq]at this;rcases this with (h|h)|h
    ·exact absurd h hx58
    ·exact Or.inl h
    ·exact Or.inr h
   have hxn:((x.toNat:Int) == 58)=false:=by
    rw[beq_eq_false_iff_ne];exact fun e=>hx58 (by apply UInt8.toNat_inj.1;show x.toNat=58;omega)
   have HNUM:Hid ((∀n:Nat,n<=1099511627776->rest≠digW n)->∀a,¬IsLeaf s a):=zh (fun h a ha=>by
    rcases HCA.o.leaf ha with ⟨y,rfl,_,e,_⟩|⟨y,rfl,_,e,_⟩|⟨k,less,n,rfl,_,_,e⟩
    ·exact hx58 e
    ·exact hx58 e
    ·exact h n ha.1.2 e)
   by_cases hw0:what=whatW 0
   ·have HWK:=zh hw0;have r0:(what.toList == [112,114,105,99,101])=true:=Zbm hw0;clear hx58 hw0;have HAT:=zh (Zey rest w5.drew (by omega) (he.keep HB5d.o));go_wp2_with fail;refine HAT.o.mono ?_;rintro e w6 ⟨hae,hb6⟩;have HB6:=zT HB5d hb6;clear hb6 HAT;rcases hae with ⟨v,rfl,hr⟩|⟨v,t,M,rfl,hr⟩
    ·have HR:=zh hr;by_cases h0:v<0
     ·have q0:decide (v<0)=true:=decide_eq_true h0
      have HNO:Hid (∀a,¬IsLeaf s a):=zh (HNUM.o (fun n hn hr2=>by
       have h1:=hr.2.1 rfl;rw[hr2,Zak,Zaz hn]at h1;injection h1 with h1;omega))
      clear hr h0;go_wp2_with fail;go_ret2;exact⟨Or.inr ⟨HNO.o,_,rfl⟩,HB6.o⟩
     have q0:decide (v<0)=false:=decide_eq_false h0;by_cases h1:1099511627776<v
     ·have q6:decide (1099511627776<v)=true:=decide_eq_true h1
      have HNO:Hid (∀a,¬IsLeaf s a):=zh (HNUM.o (fun n hn hr2=>by
       have h1':=hr.2.1 rfl;rw[hr2,Zak,Zaz hn]at h1';injection h1' with h1';omega))
      clear hr h0 h1;go_wp2_with fail;go_ret2;exact⟨Or.inr ⟨HNO.o,_,rfl⟩,HB6.o⟩
     have q6:decide (1099511627776<v)=false:=decide_eq_false h1;have HIT:=zh (Zbx v (by omega) (by omega) w6 (ht.keep HB6.o));obtain⟨n,rfl⟩:∃n:Nat,v=n:=⟨v.toNat,by omega⟩
     obtain⟨iw,hiw⟩:∃iw:ByteArray,⟨(Lib.itoa (n:Int)).toArray⟩=iw:=⟨_,rfl⟩
     rw[hiw]at HIT;have hiw2:iw=digW n:=by rw[<-hiw,Lib.itoa_nonneg];rfl
     clear h0 hiw hr;by_cases heq:iw=rest
     ·have q7:(iw.toList == rest.toList)=true:=by rw[heq];simp
      have HYES:Hid (IsLeaf s (.num 0 (x == 60) n)):=zh (⟨⟨by omega,by omega⟩,Za5 (by rw[HCA.o.all,HWK.o,<-heq,hiw2];rcases hx2 with rfl|rfl <;> simp[leafT,signW,digW])⟩);clear heq hiw2 h1;go_wp2_with fail;refine HIT.o.mono ?_;rintro e w7 ⟨rfl,hb7⟩;have HB7:=zT HB6 hb7;clear hb7;rcases hx2 with rfl|rfl
      ·go_wp2_with fail;go_ret2;exact⟨Or.inl ⟨_,HYES.o,by rw[show leafV (.num 0 _ n) = .iface 249 (.agg #[.string (whatW 0),.bool _,.int .i64 n]) from rfl,<-HWK.o];rfl⟩,HB7.o⟩
      ·go_wp2_with fail;go_ret2;exact⟨Or.inl ⟨_,HYES.o,by rw[show leafV (.num 0 _ n) = .iface 249 (.agg #[.string (whatW 0),.bool _,.int .i64 n]) from rfl,<-HWK.o];rfl⟩,HB7.o⟩
     ·have q7:(iw.toList == rest.toList)=false:=by
       rw[beq_eq_false_iff_ne,Lib.toList_data,Lib.toList_data];exact fun e=>heq (Za5 e)
      have HNO:Hid (∀a,¬IsLeaf s a):=zh (HNUM.o (fun n' hn hr2=>by
       have h1':=HR.o.2.1 rfl;rw[hr2,Zak,Zaz hn]at h1';injection h1' with h1';have:n'=n:=by omega
       subst this;exact heq (hiw2.trans hr2.symm)))
      clear heq hiw2 h1;go_wp2_with fail;refine HIT.o.mono ?_;rintro e w7 ⟨rfl,hb7⟩;have HB7:=zT HB6 hb7;clear hb7;go_wp2_with fail;go_ret2;exact⟨Or.inr ⟨HNO.o,_,rfl⟩,HB7.o⟩
    ·have HNO:Hid (∀a,¬IsLeaf s a):=zh (HNUM.o (fun n hn hr2=>by
      have h1:=hr.2.2 rfl n;rw[hr2,Zak,Zaz hn]at h1;exact h1 rfl))
     clear hr;go_wp2_with fail;go_ret2;exact⟨Or.inr ⟨HNO.o,_,rfl⟩,HB6.o⟩
   by_cases hw1:what=whatW 1
   ·have HWK:=zh hw1;have r1:(what.toList == [115,116,111,99,107])=true:=Zbm hw1;have r0:(what.toList == [112,114,105,99,101])=false:=Zbg hw0;clear hx58 hw0 hw1;have HAT:=zh (Zey rest w5.drew (by omega) (he.keep HB5d.o));go_wp2_with fail;refine HAT.o.mono ?_;rintro e w6 ⟨hae,hb6⟩;have HB6:=zT HB5d hb6;clear hb6 HAT;rcases hae with ⟨v,rfl,hr⟩|⟨v,t,M,rfl,hr⟩
    ·have HR:=zh hr;by_cases h0:v<0
     ·have q0:decide (v<0)=true:=decide_eq_true h0
      have HNO:Hid (∀a,¬IsLeaf s a):=zh (HNUM.o (fun n hn hr2=>by
       have h1:=hr.2.1 rfl;rw[hr2,Zak,Zaz hn]at h1;injection h1 with h1;omega))
      clear hr h0;go_wp2_with fail;go_ret2;exact⟨Or.inr ⟨HNO.o,_,rfl⟩,HB6.o⟩
     have q0:decide (v<0)=false:=decide_eq_false h0;by_cases h1:1099511627776<v
     ·have q6:decide (1099511627776<v)=true:=decide_eq_true h1
      have HNO:Hid (∀a,¬IsLeaf s a):=zh (HNUM.o (fun n hn hr2=>by
       have h1':=hr.2.1 rfl;rw[hr2,Zak,Zaz hn]at h1';injection h1' with h1';omega))
      clear hr h0 h1;go_wp2_with fail;go_ret2;exact⟨Or.inr ⟨HNO.o,_,rfl⟩,HB6.o⟩
     have q6:decide (1099511627776<v)=false:=decide_eq_false h1;have HIT:=zh (Zbx v (by omega) (by omega) w6 (ht.keep HB6.o));obtain⟨n,rfl⟩:∃n:Nat,v=n:=⟨v.toNat,by omega⟩
     obtain⟨iw,hiw⟩:∃iw:ByteArray,⟨(Lib.itoa (n:Int)).toArray⟩=iw:=⟨_,rfl⟩
     rw[hiw]at HIT;have hiw2:iw=digW n:=by rw[<-hiw,Lib.itoa_nonneg];rfl
     clear h0 hiw hr;by_cases heq:iw=rest
     ·have q7:(iw.toList == rest.toList)=true:=by rw[heq];simp
      have HYES:Hid (IsLeaf s (.num 1 (x == 60) n)):=zh (⟨⟨by omega,by omega⟩,Za5 (by rw[HCA.o.all,HWK.o,<-heq,hiw2];rcases hx2 with rfl|rfl <;> simp[leafT,signW,digW])⟩);clear heq hiw2 h1;go_wp2_with fail;refine HIT.o.mono ?_;rintro e w7 ⟨rfl,hb7⟩;have HB7:=zT HB6 hb7;clear hb7;rcases hx2 with rfl|rfl
      ·go_wp2_with fail;go_ret2;exact⟨Or.inl ⟨_,HYES.o,by rw[show leafV (.num 1 _ n) = .iface 249 (.agg #[.string (whatW 1),.bool _,.int .i64 n]) from rfl,<-HWK.o];rfl⟩,HB7.o⟩
      ·go_wp2_with fail;go_ret2;exact⟨Or.inl ⟨_,HYES.o,by rw[show leafV (.num 1 _ n) = .iface 249 (.agg #[.string (whatW 1),.bool _,.int .i64 n]) from rfl,<-HWK.o];rfl⟩,HB7.o⟩
     ·have q7:(iw.toList == rest.toList)=false:=by
       rw[beq_eq_false_iff_ne,Lib.toList_data,Lib.toList_data];exact fun e=>heq (Za5 e)
      have HNO:Hid (∀a,¬IsLeaf s a):=zh (HNUM.o (fun n' hn hr2=>by
       have h1':=HR.o.2.1 rfl;rw[hr2,Zak,Zaz hn]at h1';injection h1' with h1';have:n'=n:=by omega
       subst this;exact heq (hiw2.trans hr2.symm)))
      clear heq hiw2 h1;go_wp2_with fail;refine HIT.o.mono ?_;rintro e w7 ⟨rfl,hb7⟩;have HB7:=zT HB6 hb7;clear hb7;go_wp2_with fail;go_ret2;exact⟨Or.inr ⟨HNO.o,_,rfl⟩,HB7.o⟩
    ·have HNO:Hid (∀a,¬IsLeaf s a):=zh (HNUM.o (fun n hn hr2=>by
      have h1:=hr.2.2 rfl n;rw[hr2,Zak,Zaz hn]at h1;exact h1 rfl))
     clear hr;go_wp2_with fail;go_ret2;exact⟨Or.inr ⟨HNO.o,_,rfl⟩,HB6.o⟩
   by_cases hw2:what=whatW 2
   ·have HWK:=zh hw2;have r2:(what.toList == [97,103,101])=true:=Zbm hw2;have r0:(what.toList == [112,114,105,99,101])=false:=Zbg hw0;have r1:(what.toList == [115,116,111,99,107])=false:=Zbg hw1;clear hx58 hw0 hw1 hw2;have HAT:=zh (Zey rest w5.drew (by omega) (he.keep HB5d.o));go_wp2_with fail;refine HAT.o.mono ?_;rintro e w6 ⟨hae,hb6⟩;have HB6:=zT HB5d hb6;clear hb6 HAT;rcases hae with ⟨v,rfl,hr⟩|⟨v,t,M,rfl,hr⟩
    ·have HR:=zh hr;by_cases h0:v<0
     ·have q0:decide (v<0)=true:=decide_eq_true h0
      have HNO:Hid (∀a,¬IsLeaf s a):=zh (HNUM.o (fun n hn hr2=>by
       have h1:=hr.2.1 rfl;rw[hr2,Zak,Zaz hn]at h1;injection h1 with h1;omega))
      clear hr h0;go_wp2_with fail;go_ret2;exact⟨Or.inr ⟨HNO.o,_,rfl⟩,HB6.o⟩
     have q0:decide (v<0)=false:=decide_eq_false h0;by_cases h1:1099511627776<v
     ·have q6:decide (1099511627776<v)=true:=decide_eq_true h1
      have HNO:Hid (∀a,¬IsLeaf s a):=zh (HNUM.o (fun n hn hr2=>by
       have h1':=hr.2.1 rfl;rw[hr2,Zak,Zaz hn]at h1';injection h1' with h1';omega))
      clear hr h0 h1;go_wp2_with fail;go_ret2;exact⟨Or.inr ⟨HNO.o,_,rfl⟩,HB6.o⟩
     have q6:decide (1099511627776<v)=false:=decide_eq_false h1;have HIT:=zh (Zbx v (by omega) (by omega) w6 (ht.keep HB6.o));obtain⟨n,rfl⟩:∃n:Nat,v=n:=⟨v.toNat,by omega⟩
     obtain⟨iw,hiw⟩:∃iw:ByteArray,⟨(Lib.itoa (n:Int)).toArray⟩=iw:=⟨_,rfl⟩
     rw[hiw]at HIT;have hiw2:iw=digW n:=by rw[<-hiw,Lib.itoa_nonneg];rfl
     clear h0 hiw hr;by_cases heq:iw=rest
     ·have q7:(iw.toList == rest.toList)=true:=by rw[heq];simp
      have HYES:Hid (IsLeaf s (.num 2 (x == 60) n)):=zh (⟨⟨by omega,by omega⟩,Za5 (by rw[HCA.o.all,HWK.o,<-heq,hiw2];rcases hx2 with rfl|rfl <;> simp[leafT,signW,digW])⟩);clear heq hiw2 h1;go_wp2_with fail;refine HIT.o.mono ?_;rintro e w7 ⟨rfl,hb7⟩;have HB7:=zT HB6 hb7;clear hb7;rcases hx2 with rfl|rfl
      ·go_wp2_with fail;go_ret2;exact⟨Or.inl ⟨_,HYES.o,by rw[show leafV (.num 2 _ n) = .iface 249 (.agg #[.string (whatW 2),.bool _,.int .i64 n]) from rfl,<-HWK.o];rfl⟩,HB7.o⟩
      ·go_wp2_with fail;go_ret2;exact⟨Or.inl ⟨_,HYES.o,by rw[show leafV (.num 2 _ n) = .iface 249 (.agg #[.string (whatW 2),.bool _,.int .i64 n]) from rfl,<-HWK.o];rfl⟩,HB7.o⟩
     ·have q7:(iw.toList == rest.toList)=false:=by
       rw[beq_eq_false_iff_ne,Lib.toList_data,Lib.toList_data];exact fun e=>heq (Za5 e)
      have HNO:Hid (∀a,¬IsLeaf s a):=zh (HNUM.o (fun n' hn hr2=>by
       have h1':=HR.o.2.1 rfl;rw[hr2,Zak,Zaz hn]at h1';injection h1' with h1';have:n'=n:=by omega
       subst this;exact heq (hiw2.trans hr2.symm)))
      clear heq hiw2 h1;go_wp2_with fail;refine HIT.o.mono ?_;rintro e w7 ⟨rfl,hb7⟩;have HB7:=zT HB6 hb7;clear hb7;go_wp2_with fail;go_ret2;exact⟨Or.inr ⟨HNO.o,_,rfl⟩,HB7.o⟩
    ·have HNO:Hid (∀a,¬IsLeaf s a):=zh (HNUM.o (fun n hn hr2=>by
      have h1:=hr.2.2 rfl n;rw[hr2,Zak,Zaz hn]at h1;exact h1 rfl))
     clear hr;go_wp2_with fail;go_ret2;exact⟨Or.inr ⟨HNO.o,_,rfl⟩,HB6.o⟩
   by_cases hw3:what=whatW 3
   ·have HWK:=zh hw3;have r3:(what.toList == [102,97,110,115])=true:=Zbm hw3;have r0:(what.toList == [112,114,105,99,101])=false:=Zbg hw0;have r1:(what.toList == [115,116,111,99,107])=false:=Zbg hw1;have r2:(what.toList == [97,103,101])=false:=Zbg hw2;clear hx58 hw0 hw1 hw2 hw3;have HAT:=zh (Zey rest w5.drew (by omega) (he.keep HB5d.o));go_wp2_with fail;refine HAT.o.mono ?_;rintro e w6 ⟨hae,hb6⟩;have HB6:=zT HB5d hb6;clear hb6 HAT;rcases hae with ⟨v,rfl,hr⟩|⟨v,t,M,rfl,hr⟩
    ·have HR:=zh hr;by_cases h0:v<0
     ·have q0:decide (v<0)=true:=decide_eq_true h0
      have HNO:Hid (∀a,¬IsLeaf s a):=zh (HNUM.o (fun n hn hr2=>by
       have h1:=hr.2.1 rfl;rw[hr2,Zak,Zaz hn]at h1;injection h1 with h1;omega))
      clear hr h0;go_wp2_with fail;go_ret2;exact⟨Or.inr ⟨HNO.o,_,rfl⟩,HB6.o⟩
     have q0:decide (v<0)=false:=decide_eq_false h0;by_cases h1:1099511627776<v
     ·have q6:decide (1099511627776<v)=true:=decide_eq_true h1
      have HNO:Hid (∀a,¬IsLeaf s a):=zh (HNUM.o (fun n hn hr2=>by
       have h1':=hr.2.1 rfl;rw[hr2,Zak,Zaz hn]at h1';injection h1' with h1';omega))
      clear hr h0 h1;go_wp2_with fail;go_ret2;exact⟨Or.inr ⟨HNO.o,_,rfl⟩,HB6.o⟩
     have q6:decide (1099511627776<v)=false:=decide_eq_false h1;have HIT:=zh (Zbx v (by omega) (by omega) w6 (ht.keep HB6.o));obtain⟨n,rfl⟩:∃n:Nat,v=n:=⟨v.toNat,by omega⟩
     obtain⟨iw,hiw⟩:∃iw:ByteArray,⟨(Lib.itoa (n:Int)).toArray⟩=iw:=⟨_,rfl⟩
     rw[hiw]at HIT;have hiw2:iw=digW n:=by rw[<-hiw,Lib.itoa_nonneg];rfl
     clear h0 hiw hr;by_cases heq:iw=rest
     ·have q7:(iw.toList == rest.toList)=true:=by rw[heq];simp
      have HYES:Hid (IsLeaf s (.num 3 (x == 60) n)):=zh (⟨⟨by omega,by omega⟩,Za5 (by rw[HCA.o.all,HWK.o,<-heq,hiw2];rcases hx2 with rfl|rfl <;> simp[leafT,signW,digW])⟩);clear heq hiw2 h1;go_wp2_with fail;refine HIT.o.mono ?_;rintro e w7 ⟨rfl,hb7⟩;have HB7:=zT HB6 hb7;clear hb7;rcases hx2 with rfl|rfl
      ·go_wp2_with fail;go_ret2;exact⟨Or.inl ⟨_,HYES.o,by rw[show leafV (.num 3 _ n) = .iface 249 (.agg #[.string (whatW 3),.bool _,.int .i64 n]) from rfl,<-HWK.o];rfl⟩,HB7.o⟩
      ·go_wp2_with fail;go_ret2;exact⟨Or.inl ⟨_,HYES.o,by rw[show leafV (.num 3 _ n) = .iface 249 (.agg #[.string (whatW 3),.bool _,.int .i64 n]) from rfl,<-HWK.o];rfl⟩,HB7.o⟩
     ·have q7:(iw.toList == rest.toList)=false:=by
       rw[beq_eq_false_iff_ne,Lib.toList_data,Lib.toList_data];exact fun e=>heq (Za5 e)
      have HNO:Hid (∀a,¬IsLeaf s a):=zh (HNUM.o (fun n' hn hr2=>by
       have h1':=HR.o.2.1 rfl;rw[hr2,Zak,Zaz hn]at h1';injection h1' with h1';have:n'=n:=by omega
       subst this;exact heq (hiw2.trans hr2.symm)))
      clear heq hiw2 h1;go_wp2_with fail;refine HIT.o.mono ?_;rintro e w7 ⟨rfl,hb7⟩;have HB7:=zT HB6 hb7;clear hb7;go_wp2_with fail;go_ret2;exact⟨Or.inr ⟨HNO.o,_,rfl⟩,HB7.o⟩
    ·have HNO:Hid (∀a,¬IsLeaf s a):=zh (HNUM.o (fun n hn hr2=>by
      have h1:=hr.2.2 rfl n;rw[hr2,Zak,Zaz hn]at h1;exact h1 rfl))
     clear hr;go_wp2_with fail;go_ret2;exact⟨Or.inr ⟨HNO.o,_,rfl⟩,HB6.o⟩
   have r0:(what.toList == [112,114,105,99,101])=false:=Zbg hw0;have r1:(what.toList == [115,116,111,99,107])=false:=Zbg hw1;have r2:(what.toList == [97,103,101])=false:=Zbg hw2;have r3:(what.toList == [102,97,110,115])=false:=Zbg hw3
   have HNO:Hid (∀a,¬IsLeaf s a):=zh (fun a ha=>by
    rcases HCA.o.leaf ha with ⟨y,rfl,_,e,_⟩|⟨y,rfl,_,e,_⟩|⟨k,less,n,rfl,e,_⟩
    ·exact hx58 e
    ·exact hx58 e
    ·have hk4:k<4:=ha.1.1;rcases (show k=0\/k=1\/k=2\/k=3 by omega) with rfl|rfl|rfl|rfl
     ·exact hw0 e
     ·exact hw1 e
     ·exact hw2 e
     ·exact hw3 e)
   clear hx58 hw0 hw1 hw2 hw3;go_wp2_with fail;go_ret2;exact⟨Or.inr ⟨HNO.o,_,rfl⟩,HB5d.o⟩
end Go.Proofs.YtnpfaajhgghpgaaGreatDoor.Ru
namespace Go.Proofs.YtnpfaajhgghpgaaGreatDoor.Ru
open Go.RowKit Go.Maps Go.Shelf
variable {L : Nat}
theorem Zpn (pb en d at_:Nat)(ts:List Tk)(w:World)(h:PsAt w pb L ts en d true at_) :
  Calls Tryz.prog 19 #[.pointer (some ⟨pb,0,none⟩)] w fun e w'=>e = .returned .nilIface/\Below w.heap.size w w':=by
 obtain⟨A,n,c,h⟩:=h;have c3:w.cell? ⟨pb,3,none⟩=some (.bool true):=h.blk.cell 3;clear h;go_enter Tryz.func19,Tryz.ntmps19;go_wp2_with fail;go_ret;exact⟨rfl,Below.refl _ _⟩
theorem PsAt.deep {w:World}{pb en d d' at_:Nat}{ts:List Tk}{bad:Bool}(h:PsAt w pb L ts en d bad at_):PsAt (w.setCell ⟨pb,2,none⟩ (.int .i64 d')) pb L ts en d' bad at_:=by
 obtain⟨A,n,c,h⟩:=h;exact⟨A,n,c,h.set 2 (.int .i64 d') (by simp)⟩
theorem PsAt.deep_is {w:World}{pb en d at_:Nat}{ts:List Tk}{bad:Bool}(h:PsAt w pb L ts en d bad at_):w.cell? ⟨pb,2,none⟩=some (.int .i64 d)/\w.frozen? ⟨pb,2,none⟩=false:=by
 obtain⟨A,n,c,h⟩:=h;exact⟨h.blk.cell 2,h.blk.frozen 2⟩
structure ParIs (k B pb L en d at_:Nat) (ts:List Tk) (w w':World) (v:Value) (ok:Bool) (ts1:List Tk) (ns:List Nd) (at1:Nat):Prop where
 par:P k d (tx ts) ok (tx ts1) ns
 less:ts1.length<=ts.length
 drop:∃j,ts1=ts.drop j
 okv:Okv w' B (1+ts.length - ts1.length) v
 ps:PsAt w' pb L ts1 en d (!ok) at1
 at1:at1=if ok then at_ else place ts1 en
 nd:ok=true->NdAt w' B (nodeOf k ns) v
 kept:Kept (fun i=>i=pb) w w'
def ParPost (k B pb L en d at_:Nat)(ts:List Tk)(w:World)(e:Ending)(w':World):Prop:=∃v ok ts1 ns at1,e = .returned v/\ParIs k B pb L en d at_ ts w w' v ok ts1 ns at1
def ParOk (f:FuncId)(k:Nat)(ts:List Tk):Prop:=∀(B pb L en d at_:Nat) (w:World),pb<B->L<=B->B<=w.heap.size->d<=40->ts.length<=3000->(∀t∈ts,t.1.size<=3000)->PsAt w pb L ts en d false at_->(∀V,Below pb w V->ErrAt V/\TabAt V)->Calls Tryz.prog f #[.pointer (some ⟨pb,0,none⟩)] w fun e w'=>ParPost k B pb L en d at_ ts w e w'
theorem below_kept {w w':World}{S:Nat->Prop}(k:Below w.heap.size w w'):Kept S w w':=(Kept.refl S w).below k (zr _)
theorem Zea {ts:List Tk}{c:ByteArray}(h:hd (tx ts)=c)(hc:c≠⟨#[]⟩):∃t r,ts=t::r/\t.1=c/\tx ts=c::tx r:=by
 cases ts with
 | nil=>exact absurd h.symm hc
 | cons t r=>
  have h1:t.1=c:=h;exact⟨t,r,rfl,h1,by simp[tx,h1]⟩
theorem Zsj {ts:List Tk}(h:∀t∈ts,t.1.size<=3000):(hd (tx ts)).size<=3000:=by
 cases ts with
 | nil=>exact Nat.zero_le _
 | cons t r=>exact h t (by simp)
theorem Zsk (ts:List Tk)(hor:∀ts',ts'.length<ts.length->ParOk 18 0 ts')(hnn:hd (tx ts)≠notW):ParOk 123 2 ts:=by
 intro B pb L en d at_ w hpb hLB hB hd40 hlen hsz hps hge;have HOR:=zh hor;have HNN:=zh hnn;have HSZ:=zh hsz;have HGE:=zh hge;have HPS:=zh hps;have HNX:=zh (Zdt pb en d at_ ts w hps);clear hor hnn hsz hge hps;obtain⟨wd,hwd⟩:=zG (hd (tx ts));have HWD:=zh hwd;have hwz:wd.size<=3000:=by rw[<-hwd];exact Zsj HSZ.o
 rw[hwd]at HNX;clear hwd;go_enter Tryz.func123,Tryz.ntmps123;go_wp2_with fail;refine HNX.o.mono ?_;rintro e w1 ⟨rfl,hb1⟩;have HB1:=zh hb1;have HPS1:Hid (PsAt w1 pb L ts en d false at_):=zh (HPS.o.below hb1);have HPL:Hid (pb<w.heap.size):=zh HPS.o.lt;have HG1:Hid (ErrAt w1/\TabAt w1):=zh (HGE.o w1 (hb1.mono (Nat.le_of_lt HPS.o.lt)));clear hb1;by_cases hop:wd=openW
 rotate_left
 ·have q1:(wd.toList == [40])=false:=Zbg hop;have HLF:=zh (Zpm wd w1 hwz HG1.o.1 HG1.o.2);go_wp2_with fail;refine HLF.o.mono ?_;rintro e w2 ⟨hlp,hb2⟩;have HB2:=zT HB1 hb2;have HPS2:Hid (PsAt w2 pb L ts en d false at_):=zh (HPS1.o.below hb2);clear hb2 HLF;rcases hlp with ⟨a,ha,rfl⟩|⟨hno,v,rfl⟩
  ·obtain⟨t,r,rfl,ht1,htx⟩:=Zea HWD.o (fun e=>Zcm (Or.inr (Or.inr (Or.inr (Or.inr (Or.inr e))))) a ha);have HTK:=zh (Zc4 pb en d at_ t r w2 HPS2.o)
   have HFIN:Hid (∀w',PsAt w' pb L r en d false at_->Kept (fun i=>i=pb) w2 w'->ParPost 2 B pb L en d at_ (t::r) w (.returned (leafV a)) w'):=zh (fun w' hp hk=>by
    refine⟨leafV a,true,r,[.atom a],at_,rfl,⟨?_,by simp,⟨1,rfl⟩,(Okv.leaf w' B a).mono (by simp;omega),hp,rfl,fun _=>.atom a,(below_kept HB2.o).trans' hk (fun i _ hi=>hi)⟩⟩;have h1:=P.leaf (d:=d) (L:=tx (t::r)) (a:=a) (by rw[HWD.o];exact ha);exact h1)
   clear ha htx ht1 hop;go_wp2_with fail;refine HTK.o.mono ?_;rintro e w3 ⟨rfl,hp3,hk3⟩;have HX:=zh (HFIN.o w3 hp3 hk3);clear HFIN hp3 hk3;go_wp2_with fail;go_ret;exact HX.o
  ·have HFL:=zh (Zev pb en d at_ ts w2 HPS2.o)
   have HFIN:Hid (∀w',PsAt w' pb L ts en d true (place ts en)->Kept (fun i=>i=pb) w2 w'->ParPost 2 B pb L en d at_ ts w (.returned .nilIface) w'):=zh (fun w' hp hk=>by
    refine⟨.nilIface,false,ts,[],place ts en,rfl,⟨?_,zr _,⟨0,rfl⟩,(Okv.nil w' B).mono (by omega),hp,rfl,fun h=>(by cases h),(below_kept HB2.o).trans' hk (fun i _ hi=>hi)⟩⟩;exact P.bad HNN.o (fun h=>hop (HWD.o.symm.trans h.1)) (fun a ha=>hno a (by rw[<-HWD.o];exact ha)))
   clear hno hop;go_wp2_with fail;refine HFL.o.mono ?_;rintro e w3 ⟨rfl,hp3,hk3⟩;have HX:=zh (HFIN.o w3 hp3 hk3);clear HFIN hp3 hk3;go_wp2_with fail;go_ret;exact HX.o
 have q1:(wd.toList == [40])=true:=Zbm hop;have HOP:=zh (HWD.o.trans hop);clear hop;obtain⟨k2,f2⟩:=HPS1.o.deep_is;by_cases hd4:d=40
 ·have q2:((d:Int) == 40)=true:=by rw[beq_iff_eq];omega
  have HFL:=zh (Zev pb en d at_ ts w1 HPS1.o)
  have HFIN:Hid (∀w',PsAt w' pb L ts en d true (place ts en)->Kept (fun i=>i=pb) w1 w'->ParPost 2 B pb L en d at_ ts w (.returned .nilIface) w'):=zh (fun w' hp hk=>by
   refine⟨.nilIface,false,ts,[],place ts en,rfl,⟨?_,zr _,⟨0,rfl⟩,(Okv.nil w' B).mono (by omega),hp,rfl,fun h=>(by cases h),(below_kept HB1.o).trans' hk (fun i _ hi=>hi)⟩⟩;exact P.bad HNN.o (fun h=>by omega) (fun a ha=>Zcm (Or.inr (Or.inl HOP.o)) a ha))
  clear hd4;go_wp2_with fail;refine HFL.o.mono ?_;rintro e w3 ⟨rfl,hp3,hk3⟩;have HX:=zh (HFIN.o w3 hp3 hk3);clear HFIN hp3 hk3;go_wp2_with fail;go_ret;exact HX.o
 have q2:((d:Int) == 40)=false:=by rw[beq_eq_false_iff_ne];omega
 have hdl:d<40:=by omega
 clear hd4;obtain⟨t,r,rfl,ht1,htx⟩:=Zea HOP.o (by decide);have HTX:=zh htx;have HTK:=zh (Zc4 pb en d at_ t r w1 HPS1.o);clear ht1 htx;go_wp2_with fail;refine HTK.o.mono ?_;rintro e w2 ⟨rfl,hp2,hk2⟩;have HP2:=zh hp2;have HK2:Hid (Kept (fun i=>i=pb) w w2):=zh ((below_kept HB1.o).trans' hk2 (fun i _ hi=>hi));clear hp2 hk2 HTK q1 q2 k2 f2;obtain⟨k2,f2⟩:=HP2.o.deep_is;have hdw:IntKind.i64.wrap ((d:Int)+1)=(d:Int)+1:=by rw[IntKind.wrap_i64];omega
 obtain⟨w3,hw3⟩:=zG (w2.setCell ⟨pb,2,none⟩ (.int .i64 ((d:Int)+1)));have HP3:Hid (PsAt w3 pb L r en (d+1) false at_):=zh (by rw[<-hw3];have:=HP2.o.deep (d':=d+1);push_cast at this;exact this);have HK3:Hid (Kept (fun i=>i=pb) w w3):=zh (by rw[<-hw3];exact HK2.o.setCell (p:=⟨pb,2,none⟩) (Or.inl rfl) _);have hlr:r.length<=3000:=by simp at hlen;omega
 have HBP:Hid (∀{V:World},Kept (fun i=>i=pb) w V->Below pb w V):=zh (fun k=>k.toBelow (fun i hi=>by omega) (Nat.le_of_lt HPL.o));have HCO:=zh (HOR.o r (by simp) B pb L en (d+1) at_ w3 hpb hLB (Nat.le_trans hB HK3.o.size) (by omega) hlr (fun x hx=>HSZ.o x (by simp[hx])) HP3.o (fun V hV=>HGE.o V ((HBP.o HK3.o).trans hV)));go_wp2_with fail;clear hw3 k2 f2 hdw;refine HCO.o.mono ?_;rintro e w4 ⟨v,ok,ts1,ns,at1,rfl,hpi⟩;have HPI:=zh hpi;clear hpi HCO;obtain⟨k2,f2⟩:=HPI.o.ps.deep_is;have hdw:IntKind.i64.wrap (d:Int)=(d:Int):=by rw[IntKind.wrap_i64];omega
 obtain⟨w5,hw5⟩:=zG (w4.setCell ⟨pb,2,none⟩ (.int .i64 (d:Int)));have HP5:Hid (PsAt w5 pb L ts1 en d (!ok) at1):=zh (by rw[<-hw5];exact HPI.o.ps.deep (d':=d));have HK5:Hid (Kept (fun i=>i=pb) w w5):=zh (by rw[<-hw5];exact (HK3.o.trans' HPI.o.kept (fun i _ hi=>hi)).setCell (p:=⟨pb,2,none⟩) (Or.inl rfl) _);have HK45:Hid (Kept (fun i=>i=pb) w4 w5):=zh (by rw[<-hw5];exact (Kept.refl (fun i=>i=pb) w4).setCell (p:=⟨pb,2,none⟩) (Or.inl rfl) _);have HLS:Hid (ts1.length<=(t::r).length/\∃j,ts1=(t::r).drop j):=zh ⟨by have:=HPI.o.less;simp;omega,by obtain⟨j,hj⟩:=HPI.o.drop;exact⟨j+1,hj⟩⟩;have HTL:Hid ((tx (t::r)).tail=tx r):=zh rfl;cases ok
 ·have HNX5:=zh (Zgx pb en d at1 ts1 w5 HP5.o)
  have HFIN:Hid (∀w',Below w5.heap.size w5 w'->ParPost 2 B pb L en d at_ (t::r) w (.returned .nilIface) w'):=zh (fun w' hb=>by
   refine⟨.nilIface,false,ts1,[],at1,rfl,⟨?_,HLS.o.1,HLS.o.2,(Okv.nil w' B).mono (by have:=HLS.o.1;omega),HP5.o.below hb,HPI.o.at1,fun h=>(by cases h),HK5.o.below hb HK5.o.size⟩⟩;exact P.openBad HOP.o hdl HPI.o.par (Or.inl rfl))
  go_wp2_with fail;refine HNX5.o.mono ?_;rintro e w6 ⟨rfl,hb6⟩;have HB6:=zh hb6;have HFB:=zh (Zpn pb en d at1 ts1 w6 (HP5.o.below hb6));clear hb6 hw5 k2 f2 hdw;go_wp2_with fail;refine HFB.o.mono ?_;rintro e w7 ⟨rfl,hb7⟩;have HX:=zh (HFIN.o w7 (HB6.o.trans (hb7.mono HB6.o.size)));clear HFIN hb7;go_wp2_with fail;go_ret;exact HX.o
 ·have HNX5:=zh (Zdt pb en d at1 ts1 w5 HP5.o);obtain⟨wc,hwc⟩:=zG (hd (tx ts1));have HWC:=zh hwc;rw[hwc]at HNX5;clear hwc;go_wp2_with fail;refine HNX5.o.mono ?_;rintro e w6 ⟨rfl,hb6⟩;have HB6:=zh hb6;have HP6:Hid (PsAt w6 pb L ts1 en d false at1):=zh (HP5.o.below hb6);have HK6:Hid (Kept (fun i=>i=pb) w w6):=zh (HK5.o.below hb6 HK5.o.size);have HA1:Hid (at1=at_):=zh (by have:=HPI.o.at1;simpa using this);clear hb6 hw5 k2 f2 hdw;by_cases hcl:wc=closeW
  ·have q3:(wc.toList == [41])=true:=Zbm hcl;obtain⟨t2,r2,rfl,_,htx2⟩:=Zea (HWC.o.trans hcl) (by decide);have HTX2:=zh htx2;have HHC:=zh (HWC.o.trans hcl);have HT6:=zh (Zc4 pb en d at1 t2 r2 w6 HP6.o)
   have HFIN:Hid (∀w',PsAt w' pb L r2 en d false at1->Kept (fun i=>i=pb) w6 w'->ParPost 2 B pb L en d at_ (t::r) w (.returned v) w'):=zh (fun w' hp hk=>by
    have hk4:Kept (fun i=>i=pb) w4 w':=(HK45.o.below HB6.o HK45.o.size).trans' hk (fun i _ hi=>hi);refine⟨v,true,r2,[nodeOf 0 ns],at1,rfl,⟨?_,by have:=HLS.o.1;simp at this ⊢;omega,?_,?_,hp,HA1.o,fun _=>?_,HK6.o.trans' hk (fun i _ hi=>hi)⟩⟩
    ·have h1:=P.open_ HOP.o hdl HPI.o.par HHC.o;rw[HTX2.o]at h1;exact h1
    ·obtain⟨j,hj⟩:=HLS.o.2;exact⟨j+1,by rw[<-List.tail_drop,<-hj];rfl⟩
    ·refine (HPI.o.okv.keep hk4.size (fun i hi hB=>hk4.block i hi (fun e=>by omega))).mono ?_;have:=HPI.o.less;simp at this ⊢;omega
    ·exact (HPI.o.nd rfl).kept hk4 (fun i hi=>by omega))
   clear hcl htx2;go_wp2_with fail;refine HT6.o.mono ?_;rintro e w7 ⟨rfl,hp7,hk7⟩;have HX:=zh (HFIN.o w7 hp7 hk7);clear HFIN hp7 hk7;go_wp2_with fail;go_ret;exact HX.o
  ·have q3:(wc.toList == [41])=false:=Zbg hcl;have HFL:=zh (Zev pb en d at1 ts1 w6 HP6.o)
   have HFIN:Hid (∀w',PsAt w' pb L ts1 en d true (place ts1 en)->Kept (fun i=>i=pb) w6 w'->ParPost 2 B pb L en d at_ (t::r) w (.returned .nilIface) w'):=zh (fun w' hp hk=>by
    refine⟨.nilIface,false,ts1,[],place ts1 en,rfl,⟨?_,HLS.o.1,HLS.o.2,(Okv.nil w' B).mono (by have:=HLS.o.1;omega),hp,rfl,fun h=>(by cases h),HK6.o.trans' hk (fun i _ hi=>hi)⟩⟩;exact P.openBad HOP.o hdl HPI.o.par (Or.inr (fun e=>hcl (HWC.o.symm.trans e))))
   clear hcl;go_wp2_with fail;refine HFL.o.mono ?_;rintro e w7 ⟨rfl,hp7,hk7⟩;have HX:=zh (HFIN.o w7 hp7 hk7);clear HFIN hp7 hk7;go_wp2_with fail;go_ret;exact HX.o
theorem Zrk (ts:List Tk)(hor:∀ts',ts'.length<ts.length->ParOk 18 0 ts')(hno:∀ts',ts'.length<ts.length->ParOk 98 2 ts'):ParOk 98 2 ts:=by
 intro B pb L en d at_ w hpb hLB hB hd40 hlen hsz hps hge;have HOR:=zh hor;have HNO:=zh hno;have HSZ:=zh hsz;have HGE:=zh hge;have HPS:=zh hps;have HNX:=zh (Zdt pb en d at_ ts w hps);clear hor hno hsz hge hps;obtain⟨wd,hwd⟩:=zG (hd (tx ts));have HWD:=zh hwd;rw[hwd]at HNX;clear hwd;go_enter Tryz.func98,Tryz.ntmps98;go_wp2_with fail;refine HNX.o.mono ?_;rintro e w1 ⟨rfl,hb1⟩;have HB1:=zh hb1;have HPS1:Hid (PsAt w1 pb L ts en d false at_):=zh (HPS.o.below hb1);have HPL:Hid (pb<w.heap.size):=zh HPS.o.lt;clear hb1;by_cases hnt:wd=notW
 rotate_left
 ·have q1:(wd.toList == [110,111,116])=false:=Zbg hnt;have HAT:=zh (Zsk ts HOR.o (fun e=>hnt (HWD.o.symm.trans e)) B pb L en d at_ w1 hpb hLB (Nat.le_trans hB HB1.o.size) hd40 hlen HSZ.o HPS1.o (fun V hV=>HGE.o V ((HB1.o.mono (Nat.le_of_lt HPL.o)).trans hV)));clear hnt;go_wp2_with fail;refine HAT.o.mono ?_;rintro e w4 ⟨v,ok,ts1,ns,at1,rfl,hpi⟩;have HPI:=zh hpi;clear hpi HAT;go_wp2_with fail;go_ret;obtain⟨i1,i2,i3,i4,i5,i6,i7,i8⟩:=HPI.o;exact⟨v,ok,ts1,ns,at1,rfl,⟨i1,i2,i3,i4,i5,i6,i7,(below_kept HB1.o).trans' i8 (fun i _ hi=>hi)⟩⟩
 have q1:(wd.toList == [110,111,116])=true:=Zbm hnt;have HNT:=zh (HWD.o.trans hnt);clear hnt;obtain⟨t,r,rfl,ht1,htx⟩:=Zea HNT.o (by decide);have HTX:=zh htx;have HTK:=zh (Zc4 pb en d at_ t r w1 HPS1.o);clear ht1 htx;go_wp2_with fail;refine HTK.o.mono ?_;rintro e w2 ⟨rfl,hp2,hk2⟩;have HP2:=zh hp2;have HK2:Hid (Kept (fun i=>i=pb) w w2):=zh ((below_kept HB1.o).trans' hk2 (fun i _ hi=>hi));clear hp2 hk2 HTK q1;have hlr:r.length<=3000:=by simp at hlen;omega
 have HBP:Hid (∀{V:World},Kept (fun i=>i=pb) w V->Below pb w V):=zh (fun k=>k.toBelow (fun i hi=>by omega) (Nat.le_of_lt HPL.o));have HCO:=zh (HNO.o r (by simp) B pb L en d at_ w2 hpb hLB (Nat.le_trans hB HK2.o.size) hd40 hlr (fun x hx=>HSZ.o x (by simp[hx])) HP2.o (fun V hV=>HGE.o V ((HBP.o HK2.o).trans hV)));go_wp2_with fail;refine HCO.o.mono ?_;rintro e w4 ⟨v,ok,ts1,ns,at1,rfl,hpi⟩;have HPI:=zh hpi
 have HFIN:Hid (ParPost 2 B pb L en d at_ (t::r) w (.returned (.iface 220 (.agg #[v]))) w4):=zh (by
  obtain⟨i1,i2,⟨j,i3⟩,i4,i5,i6,i7,i8⟩:=hpi;refine⟨_,ok,ts1,[.no (nodeOf 2 ns)],at1,rfl,⟨P.no HNT.o i1,by simp;omega,⟨j+1,i3⟩,(Okv.no v).mono (by simp;omega),i5,i6,fun h=>.no (i7 h),HK2.o.trans' i8 (fun i _ hi=>hi)⟩⟩)
 have hvf:v = .nilIface\/∃t x,v = .iface t x:=by
  obtain⟨_,_,h2|⟨t,y,e',_⟩|⟨k',A',m',c',xs',_,e',_⟩⟩:=hpi.okv
  ·exact Or.inl h2
  ·exact Or.inr ⟨_,_,e'⟩
  ·exact Or.inr ⟨_,_,e'⟩
 clear hpi HCO HPI;rcases hvf with rfl|⟨tv,xv,rfl⟩
 ·go_wp2_with fail;go_ret;exact HFIN.o
 ·go_wp2_with fail;go_ret;exact HFIN.o
end Go.Proofs.YtnpfaajhgghpgaaGreatDoor.Ru
